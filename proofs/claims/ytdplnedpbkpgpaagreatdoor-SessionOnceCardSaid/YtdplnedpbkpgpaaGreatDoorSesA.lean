/- Layer 18: signals' names and numbers; for all numbers and names; no condition. -/
import Derived.Test.YtdplnedpbkpgpaaGreatDoorEngAL
import Derived.Test.YtdplnedpbkpgpaaGreatDoorEngAC
namespace Go.Proofs.YtdplnedpbkpgpaaGreatDoor
set_option linter.all false
set_option maxRecDepth 100000
open Go.RowKit

/-- All signals' names, by their numbers. -/
def sigL : List ByteArray := [⟨#[]⟩, ⟨#[72, 85, 80]⟩, ⟨#[73, 78, 84]⟩, ⟨#[81, 85, 73, 84]⟩, ⟨#[73, 76, 76]⟩, ⟨#[84, 82, 65, 80]⟩, ⟨#[65, 66, 82, 84]⟩, ⟨#[66, 85, 83]⟩, ⟨#[70, 80, 69]⟩, ⟨#[75, 73, 76, 76]⟩, ⟨#[85, 83, 82, 49]⟩, ⟨#[83, 69, 71, 86]⟩, ⟨#[85, 83, 82, 50]⟩, ⟨#[80, 73, 80, 69]⟩, ⟨#[65, 76, 82, 77]⟩, ⟨#[84, 69, 82, 77]⟩, ⟨#[]⟩, ⟨#[67, 72, 76, 68]⟩, ⟨#[67, 79, 78, 84]⟩, ⟨#[83, 84, 79, 80]⟩, ⟨#[84, 83, 84, 80]⟩, ⟨#[84, 84, 73, 78]⟩, ⟨#[84, 84, 79, 85]⟩, ⟨#[]⟩, ⟨#[]⟩, ⟨#[]⟩, ⟨#[]⟩, ⟨#[]⟩, ⟨#[87, 73, 78, 67, 72]⟩]
def nameS (n : Int) : ByteArray := (sigL[n.toNat]?).getD ⟨#[]⟩
/-- Is there such a signal? -/
def isS (n : Int) : Bool := (decide (1 ≤ n) && decide (n ≤ 15)) || ((decide (17 ≤ n) && decide (n ≤ 22)) || decide (n = 28))
def wireS (n : Int) : Bool := isS n && (decide (n ≤ 15) && (decide (n ≠ 5) && decide (n ≠ 7)))
theorem c28 {n : Int} (h1 : 1 ≤ n) (h2 : n ≤ 28) : n = 1 ∨ n = 2 ∨ n = 3 ∨ n = 4 ∨ n = 5 ∨ n = 6 ∨ n = 7 ∨ n = 8 ∨ n = 9 ∨ n = 10 ∨ n = 11 ∨ n = 12 ∨ n = 13 ∨ n = 14 ∨ n = 15 ∨ n = 16 ∨ n = 17 ∨ n = 18 ∨ n = 19 ∨ n = 20 ∨ n = 21 ∨ n = 22 ∨ n = 23 ∨ n = 24 ∨ n = 25 ∨ n = 26 ∨ n = 27 ∨ n = 28 := by omega
theorem isS_out {n : Int} (h : ¬ (1 ≤ n ∧ n ≤ 28)) : isS n = false := by
  unfold isS
  simp only [Bool.or_eq_false_iff, Bool.and_eq_false_iff, decide_eq_false_iff_not]
  omega
theorem is_any18 (n : Int) (w : World) : Calls Tryz.prog 48 #[.int .i64 n] w fun e w' => e = .returned (.bool (isS n)) ∧ Only [] w w' := by
  by_cases h : 1 ≤ n ∧ n ≤ 28
  · rcases c28 h.1 h.2 with  rfl | rfl | rfl | rfl | rfl | rfl | rfl | rfl | rfl | rfl | rfl | rfl | rfl | rfl | rfl | rfl | rfl | rfl | rfl | rfl | rfl | rfl | rfl | rfl | rfl | rfl | rfl | rfl 
    · refine Hs.enter Tryz.func48 [] [] [] [.c (.v (.int .i64 1))] (Mem.start0 w) (by kernel_rfl) (by kernel_rfl) ?_
      refine Hs.runK [46] 1000 1 Tryz.func48 rfl (by kernel_rfl) (fun ν => by kernel_rfl) (fun ν => by kernel_rfl) fun ν hν => ?_
      exact Hs.ret (v := (.bool (isS 1))) Tryz.func48 (by kernel_rfl) fun w' H => ⟨rfl, H.only⟩
    · refine Hs.enter Tryz.func48 [] [] [] [.c (.v (.int .i64 2))] (Mem.start0 w) (by kernel_rfl) (by kernel_rfl) ?_
      refine Hs.runK [46] 1000 1 Tryz.func48 rfl (by kernel_rfl) (fun ν => by kernel_rfl) (fun ν => by kernel_rfl) fun ν hν => ?_
      exact Hs.ret (v := (.bool (isS 2))) Tryz.func48 (by kernel_rfl) fun w' H => ⟨rfl, H.only⟩
    · refine Hs.enter Tryz.func48 [] [] [] [.c (.v (.int .i64 3))] (Mem.start0 w) (by kernel_rfl) (by kernel_rfl) ?_
      refine Hs.runK [46] 1000 1 Tryz.func48 rfl (by kernel_rfl) (fun ν => by kernel_rfl) (fun ν => by kernel_rfl) fun ν hν => ?_
      exact Hs.ret (v := (.bool (isS 3))) Tryz.func48 (by kernel_rfl) fun w' H => ⟨rfl, H.only⟩
    · refine Hs.enter Tryz.func48 [] [] [] [.c (.v (.int .i64 4))] (Mem.start0 w) (by kernel_rfl) (by kernel_rfl) ?_
      refine Hs.runK [46] 1000 1 Tryz.func48 rfl (by kernel_rfl) (fun ν => by kernel_rfl) (fun ν => by kernel_rfl) fun ν hν => ?_
      exact Hs.ret (v := (.bool (isS 4))) Tryz.func48 (by kernel_rfl) fun w' H => ⟨rfl, H.only⟩
    · refine Hs.enter Tryz.func48 [] [] [] [.c (.v (.int .i64 5))] (Mem.start0 w) (by kernel_rfl) (by kernel_rfl) ?_
      refine Hs.runK [46] 1000 1 Tryz.func48 rfl (by kernel_rfl) (fun ν => by kernel_rfl) (fun ν => by kernel_rfl) fun ν hν => ?_
      exact Hs.ret (v := (.bool (isS 5))) Tryz.func48 (by kernel_rfl) fun w' H => ⟨rfl, H.only⟩
    · refine Hs.enter Tryz.func48 [] [] [] [.c (.v (.int .i64 6))] (Mem.start0 w) (by kernel_rfl) (by kernel_rfl) ?_
      refine Hs.runK [46] 1000 1 Tryz.func48 rfl (by kernel_rfl) (fun ν => by kernel_rfl) (fun ν => by kernel_rfl) fun ν hν => ?_
      exact Hs.ret (v := (.bool (isS 6))) Tryz.func48 (by kernel_rfl) fun w' H => ⟨rfl, H.only⟩
    · refine Hs.enter Tryz.func48 [] [] [] [.c (.v (.int .i64 7))] (Mem.start0 w) (by kernel_rfl) (by kernel_rfl) ?_
      refine Hs.runK [46] 1000 1 Tryz.func48 rfl (by kernel_rfl) (fun ν => by kernel_rfl) (fun ν => by kernel_rfl) fun ν hν => ?_
      exact Hs.ret (v := (.bool (isS 7))) Tryz.func48 (by kernel_rfl) fun w' H => ⟨rfl, H.only⟩
    · refine Hs.enter Tryz.func48 [] [] [] [.c (.v (.int .i64 8))] (Mem.start0 w) (by kernel_rfl) (by kernel_rfl) ?_
      refine Hs.runK [46] 1000 1 Tryz.func48 rfl (by kernel_rfl) (fun ν => by kernel_rfl) (fun ν => by kernel_rfl) fun ν hν => ?_
      exact Hs.ret (v := (.bool (isS 8))) Tryz.func48 (by kernel_rfl) fun w' H => ⟨rfl, H.only⟩
    · refine Hs.enter Tryz.func48 [] [] [] [.c (.v (.int .i64 9))] (Mem.start0 w) (by kernel_rfl) (by kernel_rfl) ?_
      refine Hs.runK [46] 1000 1 Tryz.func48 rfl (by kernel_rfl) (fun ν => by kernel_rfl) (fun ν => by kernel_rfl) fun ν hν => ?_
      exact Hs.ret (v := (.bool (isS 9))) Tryz.func48 (by kernel_rfl) fun w' H => ⟨rfl, H.only⟩
    · refine Hs.enter Tryz.func48 [] [] [] [.c (.v (.int .i64 10))] (Mem.start0 w) (by kernel_rfl) (by kernel_rfl) ?_
      refine Hs.runK [46] 1000 1 Tryz.func48 rfl (by kernel_rfl) (fun ν => by kernel_rfl) (fun ν => by kernel_rfl) fun ν hν => ?_
      exact Hs.ret (v := (.bool (isS 10))) Tryz.func48 (by kernel_rfl) fun w' H => ⟨rfl, H.only⟩
    · refine Hs.enter Tryz.func48 [] [] [] [.c (.v (.int .i64 11))] (Mem.start0 w) (by kernel_rfl) (by kernel_rfl) ?_
      refine Hs.runK [46] 1000 1 Tryz.func48 rfl (by kernel_rfl) (fun ν => by kernel_rfl) (fun ν => by kernel_rfl) fun ν hν => ?_
      exact Hs.ret (v := (.bool (isS 11))) Tryz.func48 (by kernel_rfl) fun w' H => ⟨rfl, H.only⟩
    · refine Hs.enter Tryz.func48 [] [] [] [.c (.v (.int .i64 12))] (Mem.start0 w) (by kernel_rfl) (by kernel_rfl) ?_
      refine Hs.runK [46] 1000 1 Tryz.func48 rfl (by kernel_rfl) (fun ν => by kernel_rfl) (fun ν => by kernel_rfl) fun ν hν => ?_
      exact Hs.ret (v := (.bool (isS 12))) Tryz.func48 (by kernel_rfl) fun w' H => ⟨rfl, H.only⟩
    · refine Hs.enter Tryz.func48 [] [] [] [.c (.v (.int .i64 13))] (Mem.start0 w) (by kernel_rfl) (by kernel_rfl) ?_
      refine Hs.runK [46] 1000 1 Tryz.func48 rfl (by kernel_rfl) (fun ν => by kernel_rfl) (fun ν => by kernel_rfl) fun ν hν => ?_
      exact Hs.ret (v := (.bool (isS 13))) Tryz.func48 (by kernel_rfl) fun w' H => ⟨rfl, H.only⟩
    · refine Hs.enter Tryz.func48 [] [] [] [.c (.v (.int .i64 14))] (Mem.start0 w) (by kernel_rfl) (by kernel_rfl) ?_
      refine Hs.runK [46] 1000 1 Tryz.func48 rfl (by kernel_rfl) (fun ν => by kernel_rfl) (fun ν => by kernel_rfl) fun ν hν => ?_
      exact Hs.ret (v := (.bool (isS 14))) Tryz.func48 (by kernel_rfl) fun w' H => ⟨rfl, H.only⟩
    · refine Hs.enter Tryz.func48 [] [] [] [.c (.v (.int .i64 15))] (Mem.start0 w) (by kernel_rfl) (by kernel_rfl) ?_
      refine Hs.runK [46] 1000 1 Tryz.func48 rfl (by kernel_rfl) (fun ν => by kernel_rfl) (fun ν => by kernel_rfl) fun ν hν => ?_
      exact Hs.ret (v := (.bool (isS 15))) Tryz.func48 (by kernel_rfl) fun w' H => ⟨rfl, H.only⟩
    · refine Hs.enter Tryz.func48 [] [] [] [.c (.v (.int .i64 16))] (Mem.start0 w) (by kernel_rfl) (by kernel_rfl) ?_
      refine Hs.runK [46] 1000 1 Tryz.func48 rfl (by kernel_rfl) (fun ν => by kernel_rfl) (fun ν => by kernel_rfl) fun ν hν => ?_
      exact Hs.ret (v := (.bool (isS 16))) Tryz.func48 (by kernel_rfl) fun w' H => ⟨rfl, H.only⟩
    · refine Hs.enter Tryz.func48 [] [] [] [.c (.v (.int .i64 17))] (Mem.start0 w) (by kernel_rfl) (by kernel_rfl) ?_
      refine Hs.runK [46] 1000 1 Tryz.func48 rfl (by kernel_rfl) (fun ν => by kernel_rfl) (fun ν => by kernel_rfl) fun ν hν => ?_
      exact Hs.ret (v := (.bool (isS 17))) Tryz.func48 (by kernel_rfl) fun w' H => ⟨rfl, H.only⟩
    · refine Hs.enter Tryz.func48 [] [] [] [.c (.v (.int .i64 18))] (Mem.start0 w) (by kernel_rfl) (by kernel_rfl) ?_
      refine Hs.runK [46] 1000 1 Tryz.func48 rfl (by kernel_rfl) (fun ν => by kernel_rfl) (fun ν => by kernel_rfl) fun ν hν => ?_
      exact Hs.ret (v := (.bool (isS 18))) Tryz.func48 (by kernel_rfl) fun w' H => ⟨rfl, H.only⟩
    · refine Hs.enter Tryz.func48 [] [] [] [.c (.v (.int .i64 19))] (Mem.start0 w) (by kernel_rfl) (by kernel_rfl) ?_
      refine Hs.runK [46] 1000 1 Tryz.func48 rfl (by kernel_rfl) (fun ν => by kernel_rfl) (fun ν => by kernel_rfl) fun ν hν => ?_
      exact Hs.ret (v := (.bool (isS 19))) Tryz.func48 (by kernel_rfl) fun w' H => ⟨rfl, H.only⟩
    · refine Hs.enter Tryz.func48 [] [] [] [.c (.v (.int .i64 20))] (Mem.start0 w) (by kernel_rfl) (by kernel_rfl) ?_
      refine Hs.runK [46] 1000 1 Tryz.func48 rfl (by kernel_rfl) (fun ν => by kernel_rfl) (fun ν => by kernel_rfl) fun ν hν => ?_
      exact Hs.ret (v := (.bool (isS 20))) Tryz.func48 (by kernel_rfl) fun w' H => ⟨rfl, H.only⟩
    · refine Hs.enter Tryz.func48 [] [] [] [.c (.v (.int .i64 21))] (Mem.start0 w) (by kernel_rfl) (by kernel_rfl) ?_
      refine Hs.runK [46] 1000 1 Tryz.func48 rfl (by kernel_rfl) (fun ν => by kernel_rfl) (fun ν => by kernel_rfl) fun ν hν => ?_
      exact Hs.ret (v := (.bool (isS 21))) Tryz.func48 (by kernel_rfl) fun w' H => ⟨rfl, H.only⟩
    · refine Hs.enter Tryz.func48 [] [] [] [.c (.v (.int .i64 22))] (Mem.start0 w) (by kernel_rfl) (by kernel_rfl) ?_
      refine Hs.runK [46] 1000 1 Tryz.func48 rfl (by kernel_rfl) (fun ν => by kernel_rfl) (fun ν => by kernel_rfl) fun ν hν => ?_
      exact Hs.ret (v := (.bool (isS 22))) Tryz.func48 (by kernel_rfl) fun w' H => ⟨rfl, H.only⟩
    · refine Hs.enter Tryz.func48 [] [] [] [.c (.v (.int .i64 23))] (Mem.start0 w) (by kernel_rfl) (by kernel_rfl) ?_
      refine Hs.runK [46] 1000 1 Tryz.func48 rfl (by kernel_rfl) (fun ν => by kernel_rfl) (fun ν => by kernel_rfl) fun ν hν => ?_
      exact Hs.ret (v := (.bool (isS 23))) Tryz.func48 (by kernel_rfl) fun w' H => ⟨rfl, H.only⟩
    · refine Hs.enter Tryz.func48 [] [] [] [.c (.v (.int .i64 24))] (Mem.start0 w) (by kernel_rfl) (by kernel_rfl) ?_
      refine Hs.runK [46] 1000 1 Tryz.func48 rfl (by kernel_rfl) (fun ν => by kernel_rfl) (fun ν => by kernel_rfl) fun ν hν => ?_
      exact Hs.ret (v := (.bool (isS 24))) Tryz.func48 (by kernel_rfl) fun w' H => ⟨rfl, H.only⟩
    · refine Hs.enter Tryz.func48 [] [] [] [.c (.v (.int .i64 25))] (Mem.start0 w) (by kernel_rfl) (by kernel_rfl) ?_
      refine Hs.runK [46] 1000 1 Tryz.func48 rfl (by kernel_rfl) (fun ν => by kernel_rfl) (fun ν => by kernel_rfl) fun ν hν => ?_
      exact Hs.ret (v := (.bool (isS 25))) Tryz.func48 (by kernel_rfl) fun w' H => ⟨rfl, H.only⟩
    · refine Hs.enter Tryz.func48 [] [] [] [.c (.v (.int .i64 26))] (Mem.start0 w) (by kernel_rfl) (by kernel_rfl) ?_
      refine Hs.runK [46] 1000 1 Tryz.func48 rfl (by kernel_rfl) (fun ν => by kernel_rfl) (fun ν => by kernel_rfl) fun ν hν => ?_
      exact Hs.ret (v := (.bool (isS 26))) Tryz.func48 (by kernel_rfl) fun w' H => ⟨rfl, H.only⟩
    · refine Hs.enter Tryz.func48 [] [] [] [.c (.v (.int .i64 27))] (Mem.start0 w) (by kernel_rfl) (by kernel_rfl) ?_
      refine Hs.runK [46] 1000 1 Tryz.func48 rfl (by kernel_rfl) (fun ν => by kernel_rfl) (fun ν => by kernel_rfl) fun ν hν => ?_
      exact Hs.ret (v := (.bool (isS 27))) Tryz.func48 (by kernel_rfl) fun w' H => ⟨rfl, H.only⟩
    · refine Hs.enter Tryz.func48 [] [] [] [.c (.v (.int .i64 28))] (Mem.start0 w) (by kernel_rfl) (by kernel_rfl) ?_
      refine Hs.runK [46] 1000 1 Tryz.func48 rfl (by kernel_rfl) (fun ν => by kernel_rfl) (fun ν => by kernel_rfl) fun ν hν => ?_
      exact Hs.ret (v := (.bool (isS 28))) Tryz.func48 (by kernel_rfl) fun w' H => ⟨rfl, H.only⟩
  · have e : isS n = false := isS_out h
    rw [e]
    refine Hs.enter Tryz.func48 [] [] [] [.c (.v (.int .i64 n))] (Mem.start0 w) (by kernel_rfl) (by kernel_rfl) ?_
    refine Hs.run0 300 (fun _ => by kernel_rfl) ?_
    refine Hs.bool 5 (decide (n > 0)) (by kernel_rfl) (fun h1 => ?_) (fun h1 => ?_)
    · replace h1 : n > 0 := by simpa using h1
      refine Hs.rung0 [2] 300 (fun _ => by kernel_rfl) ?_
      refine Hs.bool 9 (decide (n ≤ 28)) (by kernel_rfl) (fun h2 => absurd ⟨h1, by simpa using h2⟩ h) (fun h2 => ?_)
      refine Hs.rung0 [2, 6] 300 (fun _ => by kernel_rfl) ?_
      exact Hs.ret (v := .bool false) Tryz.func48 (by kernel_rfl) fun w' H => ⟨rfl, H.only⟩
    · refine Hs.rung0 [2, 6] 300 (fun _ => by kernel_rfl) ?_
      exact Hs.ret (v := .bool false) Tryz.func48 (by kernel_rfl) fun w' H => ⟨rfl, H.only⟩
theorem name_any18 (n : Int) (w : World) : Calls Tryz.prog 40 #[.int .i64 n] w fun e w' => e = .returned (.tuple #[.string (if isS n then nameS n else ⟨#[]⟩), .bool (isS n)]) ∧ Only [] w w' := by
  by_cases h : 1 ≤ n ∧ n ≤ 28
  · rcases c28 h.1 h.2 with  rfl | rfl | rfl | rfl | rfl | rfl | rfl | rfl | rfl | rfl | rfl | rfl | rfl | rfl | rfl | rfl | rfl | rfl | rfl | rfl | rfl | rfl | rfl | rfl | rfl | rfl | rfl | rfl 
    · refine Hs.enter Tryz.func40 [] [] [] [.c (.v (.int .i64 1))] (Mem.start0 w) (by kernel_rfl) (by kernel_rfl) ?_
      refine Hs.runK [46, 48] 1000 2 Tryz.func40 rfl (by kernel_rfl) (fun ν => by kernel_rfl) (fun ν => by kernel_rfl) fun ν hν => ?_
      exact Hs.ret (v := (.tuple #[.string (if isS 1 then nameS 1 else ⟨#[]⟩), .bool (isS 1)])) Tryz.func40 (by kernel_rfl) fun w' H => ⟨rfl, H.only⟩
    · refine Hs.enter Tryz.func40 [] [] [] [.c (.v (.int .i64 2))] (Mem.start0 w) (by kernel_rfl) (by kernel_rfl) ?_
      refine Hs.runK [46, 48] 1000 2 Tryz.func40 rfl (by kernel_rfl) (fun ν => by kernel_rfl) (fun ν => by kernel_rfl) fun ν hν => ?_
      exact Hs.ret (v := (.tuple #[.string (if isS 2 then nameS 2 else ⟨#[]⟩), .bool (isS 2)])) Tryz.func40 (by kernel_rfl) fun w' H => ⟨rfl, H.only⟩
    · refine Hs.enter Tryz.func40 [] [] [] [.c (.v (.int .i64 3))] (Mem.start0 w) (by kernel_rfl) (by kernel_rfl) ?_
      refine Hs.runK [46, 48] 1000 2 Tryz.func40 rfl (by kernel_rfl) (fun ν => by kernel_rfl) (fun ν => by kernel_rfl) fun ν hν => ?_
      exact Hs.ret (v := (.tuple #[.string (if isS 3 then nameS 3 else ⟨#[]⟩), .bool (isS 3)])) Tryz.func40 (by kernel_rfl) fun w' H => ⟨rfl, H.only⟩
    · refine Hs.enter Tryz.func40 [] [] [] [.c (.v (.int .i64 4))] (Mem.start0 w) (by kernel_rfl) (by kernel_rfl) ?_
      refine Hs.runK [46, 48] 1000 2 Tryz.func40 rfl (by kernel_rfl) (fun ν => by kernel_rfl) (fun ν => by kernel_rfl) fun ν hν => ?_
      exact Hs.ret (v := (.tuple #[.string (if isS 4 then nameS 4 else ⟨#[]⟩), .bool (isS 4)])) Tryz.func40 (by kernel_rfl) fun w' H => ⟨rfl, H.only⟩
    · refine Hs.enter Tryz.func40 [] [] [] [.c (.v (.int .i64 5))] (Mem.start0 w) (by kernel_rfl) (by kernel_rfl) ?_
      refine Hs.runK [46, 48] 1000 2 Tryz.func40 rfl (by kernel_rfl) (fun ν => by kernel_rfl) (fun ν => by kernel_rfl) fun ν hν => ?_
      exact Hs.ret (v := (.tuple #[.string (if isS 5 then nameS 5 else ⟨#[]⟩), .bool (isS 5)])) Tryz.func40 (by kernel_rfl) fun w' H => ⟨rfl, H.only⟩
    · refine Hs.enter Tryz.func40 [] [] [] [.c (.v (.int .i64 6))] (Mem.start0 w) (by kernel_rfl) (by kernel_rfl) ?_
      refine Hs.runK [46, 48] 1000 2 Tryz.func40 rfl (by kernel_rfl) (fun ν => by kernel_rfl) (fun ν => by kernel_rfl) fun ν hν => ?_
      exact Hs.ret (v := (.tuple #[.string (if isS 6 then nameS 6 else ⟨#[]⟩), .bool (isS 6)])) Tryz.func40 (by kernel_rfl) fun w' H => ⟨rfl, H.only⟩
    · refine Hs.enter Tryz.func40 [] [] [] [.c (.v (.int .i64 7))] (Mem.start0 w) (by kernel_rfl) (by kernel_rfl) ?_
      refine Hs.runK [46, 48] 1000 2 Tryz.func40 rfl (by kernel_rfl) (fun ν => by kernel_rfl) (fun ν => by kernel_rfl) fun ν hν => ?_
      exact Hs.ret (v := (.tuple #[.string (if isS 7 then nameS 7 else ⟨#[]⟩), .bool (isS 7)])) Tryz.func40 (by kernel_rfl) fun w' H => ⟨rfl, H.only⟩
    · refine Hs.enter Tryz.func40 [] [] [] [.c (.v (.int .i64 8))] (Mem.start0 w) (by kernel_rfl) (by kernel_rfl) ?_
      refine Hs.runK [46, 48] 1000 2 Tryz.func40 rfl (by kernel_rfl) (fun ν => by kernel_rfl) (fun ν => by kernel_rfl) fun ν hν => ?_
      exact Hs.ret (v := (.tuple #[.string (if isS 8 then nameS 8 else ⟨#[]⟩), .bool (isS 8)])) Tryz.func40 (by kernel_rfl) fun w' H => ⟨rfl, H.only⟩
    · refine Hs.enter Tryz.func40 [] [] [] [.c (.v (.int .i64 9))] (Mem.start0 w) (by kernel_rfl) (by kernel_rfl) ?_
      refine Hs.runK [46, 48] 1000 2 Tryz.func40 rfl (by kernel_rfl) (fun ν => by kernel_rfl) (fun ν => by kernel_rfl) fun ν hν => ?_
      exact Hs.ret (v := (.tuple #[.string (if isS 9 then nameS 9 else ⟨#[]⟩), .bool (isS 9)])) Tryz.func40 (by kernel_rfl) fun w' H => ⟨rfl, H.only⟩
    · refine Hs.enter Tryz.func40 [] [] [] [.c (.v (.int .i64 10))] (Mem.start0 w) (by kernel_rfl) (by kernel_rfl) ?_
      refine Hs.runK [46, 48] 1000 2 Tryz.func40 rfl (by kernel_rfl) (fun ν => by kernel_rfl) (fun ν => by kernel_rfl) fun ν hν => ?_
      exact Hs.ret (v := (.tuple #[.string (if isS 10 then nameS 10 else ⟨#[]⟩), .bool (isS 10)])) Tryz.func40 (by kernel_rfl) fun w' H => ⟨rfl, H.only⟩
    · refine Hs.enter Tryz.func40 [] [] [] [.c (.v (.int .i64 11))] (Mem.start0 w) (by kernel_rfl) (by kernel_rfl) ?_
      refine Hs.runK [46, 48] 1000 2 Tryz.func40 rfl (by kernel_rfl) (fun ν => by kernel_rfl) (fun ν => by kernel_rfl) fun ν hν => ?_
      exact Hs.ret (v := (.tuple #[.string (if isS 11 then nameS 11 else ⟨#[]⟩), .bool (isS 11)])) Tryz.func40 (by kernel_rfl) fun w' H => ⟨rfl, H.only⟩
    · refine Hs.enter Tryz.func40 [] [] [] [.c (.v (.int .i64 12))] (Mem.start0 w) (by kernel_rfl) (by kernel_rfl) ?_
      refine Hs.runK [46, 48] 1000 2 Tryz.func40 rfl (by kernel_rfl) (fun ν => by kernel_rfl) (fun ν => by kernel_rfl) fun ν hν => ?_
      exact Hs.ret (v := (.tuple #[.string (if isS 12 then nameS 12 else ⟨#[]⟩), .bool (isS 12)])) Tryz.func40 (by kernel_rfl) fun w' H => ⟨rfl, H.only⟩
    · refine Hs.enter Tryz.func40 [] [] [] [.c (.v (.int .i64 13))] (Mem.start0 w) (by kernel_rfl) (by kernel_rfl) ?_
      refine Hs.runK [46, 48] 1000 2 Tryz.func40 rfl (by kernel_rfl) (fun ν => by kernel_rfl) (fun ν => by kernel_rfl) fun ν hν => ?_
      exact Hs.ret (v := (.tuple #[.string (if isS 13 then nameS 13 else ⟨#[]⟩), .bool (isS 13)])) Tryz.func40 (by kernel_rfl) fun w' H => ⟨rfl, H.only⟩
    · refine Hs.enter Tryz.func40 [] [] [] [.c (.v (.int .i64 14))] (Mem.start0 w) (by kernel_rfl) (by kernel_rfl) ?_
      refine Hs.runK [46, 48] 1000 2 Tryz.func40 rfl (by kernel_rfl) (fun ν => by kernel_rfl) (fun ν => by kernel_rfl) fun ν hν => ?_
      exact Hs.ret (v := (.tuple #[.string (if isS 14 then nameS 14 else ⟨#[]⟩), .bool (isS 14)])) Tryz.func40 (by kernel_rfl) fun w' H => ⟨rfl, H.only⟩
    · refine Hs.enter Tryz.func40 [] [] [] [.c (.v (.int .i64 15))] (Mem.start0 w) (by kernel_rfl) (by kernel_rfl) ?_
      refine Hs.runK [46, 48] 1000 2 Tryz.func40 rfl (by kernel_rfl) (fun ν => by kernel_rfl) (fun ν => by kernel_rfl) fun ν hν => ?_
      exact Hs.ret (v := (.tuple #[.string (if isS 15 then nameS 15 else ⟨#[]⟩), .bool (isS 15)])) Tryz.func40 (by kernel_rfl) fun w' H => ⟨rfl, H.only⟩
    · refine Hs.enter Tryz.func40 [] [] [] [.c (.v (.int .i64 16))] (Mem.start0 w) (by kernel_rfl) (by kernel_rfl) ?_
      refine Hs.runK [46, 48] 1000 1 Tryz.func40 rfl (by kernel_rfl) (fun ν => by kernel_rfl) (fun ν => by kernel_rfl) fun ν hν => ?_
      exact Hs.ret (v := (.tuple #[.string (if isS 16 then nameS 16 else ⟨#[]⟩), .bool (isS 16)])) Tryz.func40 (by kernel_rfl) fun w' H => ⟨rfl, H.only⟩
    · refine Hs.enter Tryz.func40 [] [] [] [.c (.v (.int .i64 17))] (Mem.start0 w) (by kernel_rfl) (by kernel_rfl) ?_
      refine Hs.runK [46, 48] 1000 2 Tryz.func40 rfl (by kernel_rfl) (fun ν => by kernel_rfl) (fun ν => by kernel_rfl) fun ν hν => ?_
      exact Hs.ret (v := (.tuple #[.string (if isS 17 then nameS 17 else ⟨#[]⟩), .bool (isS 17)])) Tryz.func40 (by kernel_rfl) fun w' H => ⟨rfl, H.only⟩
    · refine Hs.enter Tryz.func40 [] [] [] [.c (.v (.int .i64 18))] (Mem.start0 w) (by kernel_rfl) (by kernel_rfl) ?_
      refine Hs.runK [46, 48] 1000 2 Tryz.func40 rfl (by kernel_rfl) (fun ν => by kernel_rfl) (fun ν => by kernel_rfl) fun ν hν => ?_
      exact Hs.ret (v := (.tuple #[.string (if isS 18 then nameS 18 else ⟨#[]⟩), .bool (isS 18)])) Tryz.func40 (by kernel_rfl) fun w' H => ⟨rfl, H.only⟩
    · refine Hs.enter Tryz.func40 [] [] [] [.c (.v (.int .i64 19))] (Mem.start0 w) (by kernel_rfl) (by kernel_rfl) ?_
      refine Hs.runK [46, 48] 1000 2 Tryz.func40 rfl (by kernel_rfl) (fun ν => by kernel_rfl) (fun ν => by kernel_rfl) fun ν hν => ?_
      exact Hs.ret (v := (.tuple #[.string (if isS 19 then nameS 19 else ⟨#[]⟩), .bool (isS 19)])) Tryz.func40 (by kernel_rfl) fun w' H => ⟨rfl, H.only⟩
    · refine Hs.enter Tryz.func40 [] [] [] [.c (.v (.int .i64 20))] (Mem.start0 w) (by kernel_rfl) (by kernel_rfl) ?_
      refine Hs.runK [46, 48] 1000 2 Tryz.func40 rfl (by kernel_rfl) (fun ν => by kernel_rfl) (fun ν => by kernel_rfl) fun ν hν => ?_
      exact Hs.ret (v := (.tuple #[.string (if isS 20 then nameS 20 else ⟨#[]⟩), .bool (isS 20)])) Tryz.func40 (by kernel_rfl) fun w' H => ⟨rfl, H.only⟩
    · refine Hs.enter Tryz.func40 [] [] [] [.c (.v (.int .i64 21))] (Mem.start0 w) (by kernel_rfl) (by kernel_rfl) ?_
      refine Hs.runK [46, 48] 1000 2 Tryz.func40 rfl (by kernel_rfl) (fun ν => by kernel_rfl) (fun ν => by kernel_rfl) fun ν hν => ?_
      exact Hs.ret (v := (.tuple #[.string (if isS 21 then nameS 21 else ⟨#[]⟩), .bool (isS 21)])) Tryz.func40 (by kernel_rfl) fun w' H => ⟨rfl, H.only⟩
    · refine Hs.enter Tryz.func40 [] [] [] [.c (.v (.int .i64 22))] (Mem.start0 w) (by kernel_rfl) (by kernel_rfl) ?_
      refine Hs.runK [46, 48] 1000 2 Tryz.func40 rfl (by kernel_rfl) (fun ν => by kernel_rfl) (fun ν => by kernel_rfl) fun ν hν => ?_
      exact Hs.ret (v := (.tuple #[.string (if isS 22 then nameS 22 else ⟨#[]⟩), .bool (isS 22)])) Tryz.func40 (by kernel_rfl) fun w' H => ⟨rfl, H.only⟩
    · refine Hs.enter Tryz.func40 [] [] [] [.c (.v (.int .i64 23))] (Mem.start0 w) (by kernel_rfl) (by kernel_rfl) ?_
      refine Hs.runK [46, 48] 1000 1 Tryz.func40 rfl (by kernel_rfl) (fun ν => by kernel_rfl) (fun ν => by kernel_rfl) fun ν hν => ?_
      exact Hs.ret (v := (.tuple #[.string (if isS 23 then nameS 23 else ⟨#[]⟩), .bool (isS 23)])) Tryz.func40 (by kernel_rfl) fun w' H => ⟨rfl, H.only⟩
    · refine Hs.enter Tryz.func40 [] [] [] [.c (.v (.int .i64 24))] (Mem.start0 w) (by kernel_rfl) (by kernel_rfl) ?_
      refine Hs.runK [46, 48] 1000 1 Tryz.func40 rfl (by kernel_rfl) (fun ν => by kernel_rfl) (fun ν => by kernel_rfl) fun ν hν => ?_
      exact Hs.ret (v := (.tuple #[.string (if isS 24 then nameS 24 else ⟨#[]⟩), .bool (isS 24)])) Tryz.func40 (by kernel_rfl) fun w' H => ⟨rfl, H.only⟩
    · refine Hs.enter Tryz.func40 [] [] [] [.c (.v (.int .i64 25))] (Mem.start0 w) (by kernel_rfl) (by kernel_rfl) ?_
      refine Hs.runK [46, 48] 1000 1 Tryz.func40 rfl (by kernel_rfl) (fun ν => by kernel_rfl) (fun ν => by kernel_rfl) fun ν hν => ?_
      exact Hs.ret (v := (.tuple #[.string (if isS 25 then nameS 25 else ⟨#[]⟩), .bool (isS 25)])) Tryz.func40 (by kernel_rfl) fun w' H => ⟨rfl, H.only⟩
    · refine Hs.enter Tryz.func40 [] [] [] [.c (.v (.int .i64 26))] (Mem.start0 w) (by kernel_rfl) (by kernel_rfl) ?_
      refine Hs.runK [46, 48] 1000 1 Tryz.func40 rfl (by kernel_rfl) (fun ν => by kernel_rfl) (fun ν => by kernel_rfl) fun ν hν => ?_
      exact Hs.ret (v := (.tuple #[.string (if isS 26 then nameS 26 else ⟨#[]⟩), .bool (isS 26)])) Tryz.func40 (by kernel_rfl) fun w' H => ⟨rfl, H.only⟩
    · refine Hs.enter Tryz.func40 [] [] [] [.c (.v (.int .i64 27))] (Mem.start0 w) (by kernel_rfl) (by kernel_rfl) ?_
      refine Hs.runK [46, 48] 1000 1 Tryz.func40 rfl (by kernel_rfl) (fun ν => by kernel_rfl) (fun ν => by kernel_rfl) fun ν hν => ?_
      exact Hs.ret (v := (.tuple #[.string (if isS 27 then nameS 27 else ⟨#[]⟩), .bool (isS 27)])) Tryz.func40 (by kernel_rfl) fun w' H => ⟨rfl, H.only⟩
    · refine Hs.enter Tryz.func40 [] [] [] [.c (.v (.int .i64 28))] (Mem.start0 w) (by kernel_rfl) (by kernel_rfl) ?_
      refine Hs.runK [46, 48] 1000 2 Tryz.func40 rfl (by kernel_rfl) (fun ν => by kernel_rfl) (fun ν => by kernel_rfl) fun ν hν => ?_
      exact Hs.ret (v := (.tuple #[.string (if isS 28 then nameS 28 else ⟨#[]⟩), .bool (isS 28)])) Tryz.func40 (by kernel_rfl) fun w' H => ⟨rfl, H.only⟩
  · have e : isS n = false := isS_out h
    rw [e]
    refine Hs.enter Tryz.func40 [] [] [] [.c (.v (.int .i64 n))] (Mem.start0 w) (by kernel_rfl) (by kernel_rfl) ?_
    refine Hs.run0 300 (fun _ => by kernel_rfl) ?_
    refine Hs.callV (fun w' H => by have := is_any18 n w'; rw [e] at this; exact this) (by kernel_rfl) ?_
    refine Hs.run0 300 (fun _ => by kernel_rfl) ?_
    refine Hs.condT (by kernel_rfl) ?_
    refine Hs.run0 300 (fun _ => by kernel_rfl) ?_
    exact Hs.ret (v := .tuple #[.string ⟨#[]⟩, .bool false]) Tryz.func40 (by kernel_rfl) fun w' H => ⟨rfl, H.only⟩
theorem wire_any18 (n : Int) (w : World) : Calls Tryz.prog 25 #[.int .i64 n] w fun e w' => e = .returned (.bool (wireS n)) ∧ Only [] w w' := by
  by_cases h : 1 ≤ n ∧ n ≤ 28
  · rcases c28 h.1 h.2 with  rfl | rfl | rfl | rfl | rfl | rfl | rfl | rfl | rfl | rfl | rfl | rfl | rfl | rfl | rfl | rfl | rfl | rfl | rfl | rfl | rfl | rfl | rfl | rfl | rfl | rfl | rfl | rfl 
    · refine Hs.enter Tryz.func25 [] [] [] [.c (.v (.int .i64 1))] (Mem.start0 w) (by kernel_rfl) (by kernel_rfl) ?_
      refine Hs.runK [46, 48] 1000 1 Tryz.func25 rfl (by kernel_rfl) (fun ν => by kernel_rfl) (fun ν => by kernel_rfl) fun ν hν => ?_
      exact Hs.ret (v := (.bool (wireS 1))) Tryz.func25 (by kernel_rfl) fun w' H => ⟨rfl, H.only⟩
    · refine Hs.enter Tryz.func25 [] [] [] [.c (.v (.int .i64 2))] (Mem.start0 w) (by kernel_rfl) (by kernel_rfl) ?_
      refine Hs.runK [46, 48] 1000 1 Tryz.func25 rfl (by kernel_rfl) (fun ν => by kernel_rfl) (fun ν => by kernel_rfl) fun ν hν => ?_
      exact Hs.ret (v := (.bool (wireS 2))) Tryz.func25 (by kernel_rfl) fun w' H => ⟨rfl, H.only⟩
    · refine Hs.enter Tryz.func25 [] [] [] [.c (.v (.int .i64 3))] (Mem.start0 w) (by kernel_rfl) (by kernel_rfl) ?_
      refine Hs.runK [46, 48] 1000 1 Tryz.func25 rfl (by kernel_rfl) (fun ν => by kernel_rfl) (fun ν => by kernel_rfl) fun ν hν => ?_
      exact Hs.ret (v := (.bool (wireS 3))) Tryz.func25 (by kernel_rfl) fun w' H => ⟨rfl, H.only⟩
    · refine Hs.enter Tryz.func25 [] [] [] [.c (.v (.int .i64 4))] (Mem.start0 w) (by kernel_rfl) (by kernel_rfl) ?_
      refine Hs.runK [46, 48] 1000 1 Tryz.func25 rfl (by kernel_rfl) (fun ν => by kernel_rfl) (fun ν => by kernel_rfl) fun ν hν => ?_
      exact Hs.ret (v := (.bool (wireS 4))) Tryz.func25 (by kernel_rfl) fun w' H => ⟨rfl, H.only⟩
    · refine Hs.enter Tryz.func25 [] [] [] [.c (.v (.int .i64 5))] (Mem.start0 w) (by kernel_rfl) (by kernel_rfl) ?_
      refine Hs.runK [46, 48] 1000 0 Tryz.func25 rfl (by kernel_rfl) (fun ν => by kernel_rfl) (fun ν => by kernel_rfl) fun ν hν => ?_
      exact Hs.ret (v := (.bool (wireS 5))) Tryz.func25 (by kernel_rfl) fun w' H => ⟨rfl, H.only⟩
    · refine Hs.enter Tryz.func25 [] [] [] [.c (.v (.int .i64 6))] (Mem.start0 w) (by kernel_rfl) (by kernel_rfl) ?_
      refine Hs.runK [46, 48] 1000 1 Tryz.func25 rfl (by kernel_rfl) (fun ν => by kernel_rfl) (fun ν => by kernel_rfl) fun ν hν => ?_
      exact Hs.ret (v := (.bool (wireS 6))) Tryz.func25 (by kernel_rfl) fun w' H => ⟨rfl, H.only⟩
    · refine Hs.enter Tryz.func25 [] [] [] [.c (.v (.int .i64 7))] (Mem.start0 w) (by kernel_rfl) (by kernel_rfl) ?_
      refine Hs.runK [46, 48] 1000 0 Tryz.func25 rfl (by kernel_rfl) (fun ν => by kernel_rfl) (fun ν => by kernel_rfl) fun ν hν => ?_
      exact Hs.ret (v := (.bool (wireS 7))) Tryz.func25 (by kernel_rfl) fun w' H => ⟨rfl, H.only⟩
    · refine Hs.enter Tryz.func25 [] [] [] [.c (.v (.int .i64 8))] (Mem.start0 w) (by kernel_rfl) (by kernel_rfl) ?_
      refine Hs.runK [46, 48] 1000 1 Tryz.func25 rfl (by kernel_rfl) (fun ν => by kernel_rfl) (fun ν => by kernel_rfl) fun ν hν => ?_
      exact Hs.ret (v := (.bool (wireS 8))) Tryz.func25 (by kernel_rfl) fun w' H => ⟨rfl, H.only⟩
    · refine Hs.enter Tryz.func25 [] [] [] [.c (.v (.int .i64 9))] (Mem.start0 w) (by kernel_rfl) (by kernel_rfl) ?_
      refine Hs.runK [46, 48] 1000 1 Tryz.func25 rfl (by kernel_rfl) (fun ν => by kernel_rfl) (fun ν => by kernel_rfl) fun ν hν => ?_
      exact Hs.ret (v := (.bool (wireS 9))) Tryz.func25 (by kernel_rfl) fun w' H => ⟨rfl, H.only⟩
    · refine Hs.enter Tryz.func25 [] [] [] [.c (.v (.int .i64 10))] (Mem.start0 w) (by kernel_rfl) (by kernel_rfl) ?_
      refine Hs.runK [46, 48] 1000 1 Tryz.func25 rfl (by kernel_rfl) (fun ν => by kernel_rfl) (fun ν => by kernel_rfl) fun ν hν => ?_
      exact Hs.ret (v := (.bool (wireS 10))) Tryz.func25 (by kernel_rfl) fun w' H => ⟨rfl, H.only⟩
    · refine Hs.enter Tryz.func25 [] [] [] [.c (.v (.int .i64 11))] (Mem.start0 w) (by kernel_rfl) (by kernel_rfl) ?_
      refine Hs.runK [46, 48] 1000 1 Tryz.func25 rfl (by kernel_rfl) (fun ν => by kernel_rfl) (fun ν => by kernel_rfl) fun ν hν => ?_
      exact Hs.ret (v := (.bool (wireS 11))) Tryz.func25 (by kernel_rfl) fun w' H => ⟨rfl, H.only⟩
    · refine Hs.enter Tryz.func25 [] [] [] [.c (.v (.int .i64 12))] (Mem.start0 w) (by kernel_rfl) (by kernel_rfl) ?_
      refine Hs.runK [46, 48] 1000 1 Tryz.func25 rfl (by kernel_rfl) (fun ν => by kernel_rfl) (fun ν => by kernel_rfl) fun ν hν => ?_
      exact Hs.ret (v := (.bool (wireS 12))) Tryz.func25 (by kernel_rfl) fun w' H => ⟨rfl, H.only⟩
    · refine Hs.enter Tryz.func25 [] [] [] [.c (.v (.int .i64 13))] (Mem.start0 w) (by kernel_rfl) (by kernel_rfl) ?_
      refine Hs.runK [46, 48] 1000 1 Tryz.func25 rfl (by kernel_rfl) (fun ν => by kernel_rfl) (fun ν => by kernel_rfl) fun ν hν => ?_
      exact Hs.ret (v := (.bool (wireS 13))) Tryz.func25 (by kernel_rfl) fun w' H => ⟨rfl, H.only⟩
    · refine Hs.enter Tryz.func25 [] [] [] [.c (.v (.int .i64 14))] (Mem.start0 w) (by kernel_rfl) (by kernel_rfl) ?_
      refine Hs.runK [46, 48] 1000 1 Tryz.func25 rfl (by kernel_rfl) (fun ν => by kernel_rfl) (fun ν => by kernel_rfl) fun ν hν => ?_
      exact Hs.ret (v := (.bool (wireS 14))) Tryz.func25 (by kernel_rfl) fun w' H => ⟨rfl, H.only⟩
    · refine Hs.enter Tryz.func25 [] [] [] [.c (.v (.int .i64 15))] (Mem.start0 w) (by kernel_rfl) (by kernel_rfl) ?_
      refine Hs.runK [46, 48] 1000 1 Tryz.func25 rfl (by kernel_rfl) (fun ν => by kernel_rfl) (fun ν => by kernel_rfl) fun ν hν => ?_
      exact Hs.ret (v := (.bool (wireS 15))) Tryz.func25 (by kernel_rfl) fun w' H => ⟨rfl, H.only⟩
    · refine Hs.enter Tryz.func25 [] [] [] [.c (.v (.int .i64 16))] (Mem.start0 w) (by kernel_rfl) (by kernel_rfl) ?_
      refine Hs.runK [46, 48] 1000 1 Tryz.func25 rfl (by kernel_rfl) (fun ν => by kernel_rfl) (fun ν => by kernel_rfl) fun ν hν => ?_
      exact Hs.ret (v := (.bool (wireS 16))) Tryz.func25 (by kernel_rfl) fun w' H => ⟨rfl, H.only⟩
    · refine Hs.enter Tryz.func25 [] [] [] [.c (.v (.int .i64 17))] (Mem.start0 w) (by kernel_rfl) (by kernel_rfl) ?_
      refine Hs.runK [46, 48] 1000 1 Tryz.func25 rfl (by kernel_rfl) (fun ν => by kernel_rfl) (fun ν => by kernel_rfl) fun ν hν => ?_
      exact Hs.ret (v := (.bool (wireS 17))) Tryz.func25 (by kernel_rfl) fun w' H => ⟨rfl, H.only⟩
    · refine Hs.enter Tryz.func25 [] [] [] [.c (.v (.int .i64 18))] (Mem.start0 w) (by kernel_rfl) (by kernel_rfl) ?_
      refine Hs.runK [46, 48] 1000 1 Tryz.func25 rfl (by kernel_rfl) (fun ν => by kernel_rfl) (fun ν => by kernel_rfl) fun ν hν => ?_
      exact Hs.ret (v := (.bool (wireS 18))) Tryz.func25 (by kernel_rfl) fun w' H => ⟨rfl, H.only⟩
    · refine Hs.enter Tryz.func25 [] [] [] [.c (.v (.int .i64 19))] (Mem.start0 w) (by kernel_rfl) (by kernel_rfl) ?_
      refine Hs.runK [46, 48] 1000 1 Tryz.func25 rfl (by kernel_rfl) (fun ν => by kernel_rfl) (fun ν => by kernel_rfl) fun ν hν => ?_
      exact Hs.ret (v := (.bool (wireS 19))) Tryz.func25 (by kernel_rfl) fun w' H => ⟨rfl, H.only⟩
    · refine Hs.enter Tryz.func25 [] [] [] [.c (.v (.int .i64 20))] (Mem.start0 w) (by kernel_rfl) (by kernel_rfl) ?_
      refine Hs.runK [46, 48] 1000 1 Tryz.func25 rfl (by kernel_rfl) (fun ν => by kernel_rfl) (fun ν => by kernel_rfl) fun ν hν => ?_
      exact Hs.ret (v := (.bool (wireS 20))) Tryz.func25 (by kernel_rfl) fun w' H => ⟨rfl, H.only⟩
    · refine Hs.enter Tryz.func25 [] [] [] [.c (.v (.int .i64 21))] (Mem.start0 w) (by kernel_rfl) (by kernel_rfl) ?_
      refine Hs.runK [46, 48] 1000 1 Tryz.func25 rfl (by kernel_rfl) (fun ν => by kernel_rfl) (fun ν => by kernel_rfl) fun ν hν => ?_
      exact Hs.ret (v := (.bool (wireS 21))) Tryz.func25 (by kernel_rfl) fun w' H => ⟨rfl, H.only⟩
    · refine Hs.enter Tryz.func25 [] [] [] [.c (.v (.int .i64 22))] (Mem.start0 w) (by kernel_rfl) (by kernel_rfl) ?_
      refine Hs.runK [46, 48] 1000 1 Tryz.func25 rfl (by kernel_rfl) (fun ν => by kernel_rfl) (fun ν => by kernel_rfl) fun ν hν => ?_
      exact Hs.ret (v := (.bool (wireS 22))) Tryz.func25 (by kernel_rfl) fun w' H => ⟨rfl, H.only⟩
    · refine Hs.enter Tryz.func25 [] [] [] [.c (.v (.int .i64 23))] (Mem.start0 w) (by kernel_rfl) (by kernel_rfl) ?_
      refine Hs.runK [46, 48] 1000 1 Tryz.func25 rfl (by kernel_rfl) (fun ν => by kernel_rfl) (fun ν => by kernel_rfl) fun ν hν => ?_
      exact Hs.ret (v := (.bool (wireS 23))) Tryz.func25 (by kernel_rfl) fun w' H => ⟨rfl, H.only⟩
    · refine Hs.enter Tryz.func25 [] [] [] [.c (.v (.int .i64 24))] (Mem.start0 w) (by kernel_rfl) (by kernel_rfl) ?_
      refine Hs.runK [46, 48] 1000 1 Tryz.func25 rfl (by kernel_rfl) (fun ν => by kernel_rfl) (fun ν => by kernel_rfl) fun ν hν => ?_
      exact Hs.ret (v := (.bool (wireS 24))) Tryz.func25 (by kernel_rfl) fun w' H => ⟨rfl, H.only⟩
    · refine Hs.enter Tryz.func25 [] [] [] [.c (.v (.int .i64 25))] (Mem.start0 w) (by kernel_rfl) (by kernel_rfl) ?_
      refine Hs.runK [46, 48] 1000 1 Tryz.func25 rfl (by kernel_rfl) (fun ν => by kernel_rfl) (fun ν => by kernel_rfl) fun ν hν => ?_
      exact Hs.ret (v := (.bool (wireS 25))) Tryz.func25 (by kernel_rfl) fun w' H => ⟨rfl, H.only⟩
    · refine Hs.enter Tryz.func25 [] [] [] [.c (.v (.int .i64 26))] (Mem.start0 w) (by kernel_rfl) (by kernel_rfl) ?_
      refine Hs.runK [46, 48] 1000 1 Tryz.func25 rfl (by kernel_rfl) (fun ν => by kernel_rfl) (fun ν => by kernel_rfl) fun ν hν => ?_
      exact Hs.ret (v := (.bool (wireS 26))) Tryz.func25 (by kernel_rfl) fun w' H => ⟨rfl, H.only⟩
    · refine Hs.enter Tryz.func25 [] [] [] [.c (.v (.int .i64 27))] (Mem.start0 w) (by kernel_rfl) (by kernel_rfl) ?_
      refine Hs.runK [46, 48] 1000 1 Tryz.func25 rfl (by kernel_rfl) (fun ν => by kernel_rfl) (fun ν => by kernel_rfl) fun ν hν => ?_
      exact Hs.ret (v := (.bool (wireS 27))) Tryz.func25 (by kernel_rfl) fun w' H => ⟨rfl, H.only⟩
    · refine Hs.enter Tryz.func25 [] [] [] [.c (.v (.int .i64 28))] (Mem.start0 w) (by kernel_rfl) (by kernel_rfl) ?_
      refine Hs.runK [46, 48] 1000 1 Tryz.func25 rfl (by kernel_rfl) (fun ν => by kernel_rfl) (fun ν => by kernel_rfl) fun ν hν => ?_
      exact Hs.ret (v := (.bool (wireS 28))) Tryz.func25 (by kernel_rfl) fun w' H => ⟨rfl, H.only⟩
  · have e : wireS n = false := by unfold wireS; rw [isS_out h]; rfl
    rw [e]
    have n5 : ¬ n = 5 := fun e => h (by omega)
    have n7 : ¬ n = 7 := fun e => h (by omega)
    refine Hs.enter Tryz.func25 [] [] [] [.c (.v (.int .i64 n))] (Mem.start0 w) (by kernel_rfl) (by kernel_rfl) ?_
    refine Hs.run0 300 (fun _ => by kernel_rfl) ?_
    refine Hs.cond (n == 5) (by kernel_rfl) (fun h1 => absurd (by simpa using h1) n5) (fun _ => ?_)
    refine Hs.run0 300 (fun _ => by kernel_rfl) ?_
    refine Hs.cond (n == 7) (by kernel_rfl) (fun h1 => absurd (by simpa using h1) n7) (fun _ => ?_)
    refine Hs.run0 300 (fun _ => by kernel_rfl) ?_
    refine Hs.callV (fun w' H => by have := is_any18 n w'; rw [isS_out h] at this; exact this) (by kernel_rfl) ?_
    refine Hs.rung0 [2] 300 (fun _ => by kernel_rfl) ?_
    exact Hs.ret (v := .bool false) Tryz.func25 (by kernel_rfl) fun w' H => ⟨rfl, H.only⟩
/-- The first place of a name. -/
def idxS (nm : ByteArray) : List ByteArray → Int → Int
  | [], _ => -1
  | s :: l, i => if eqL nm.data.toList s.data.toList then i else idxS nm l (i + 1)
def numI (nm : ByteArray) : Int := idxS nm sigL 0
def numS (nm : ByteArray) : Int := if numI nm > 0 then numI nm else 0
def numB (nm : ByteArray) : Bool := decide (numI nm > 0)
end Go.Proofs.YtdplnedpbkpgpaaGreatDoor
