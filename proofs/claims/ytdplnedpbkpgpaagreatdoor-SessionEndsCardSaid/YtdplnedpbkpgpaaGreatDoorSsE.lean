/- Layer 18: signals' names and numbers; for all numbers and names; no condition · Layer 18: a name's number; for all names; no condition. -/
import Derived.Test.YtdplnedpbkpgpaaGreatDoorSsD
namespace Go.Proofs.YtdplnedpbkpgpaaGreatDoor
set_option linter.all false
set_option maxRecDepth 100000
open Go.RowKit

/-- All signals' names, by their numbers. -/
def sigL : List ByteArray := [⟨#[]⟩, ⟨#[72, 85, 80]⟩, ⟨#[73, 78, 84]⟩, ⟨#[81, 85, 73, 84]⟩, ⟨#[73, 76, 76]⟩, ⟨#[84, 82, 65, 80]⟩, ⟨#[65, 66, 82, 84]⟩, ⟨#[66, 85, 83]⟩, ⟨#[70, 80, 69]⟩, ⟨#[75, 73, 76, 76]⟩, ⟨#[85, 83, 82, 49]⟩, ⟨#[83, 69, 71, 86]⟩, ⟨#[85, 83, 82, 50]⟩, ⟨#[80, 73, 80, 69]⟩, ⟨#[65, 76, 82, 77]⟩, ⟨#[84, 69, 82, 77]⟩, ⟨#[]⟩, ⟨#[67, 72, 76, 68]⟩, ⟨#[67, 79, 78, 84]⟩, ⟨#[83, 84, 79, 80]⟩, ⟨#[84, 83, 84, 80]⟩, ⟨#[84, 84, 73, 78]⟩, ⟨#[84, 84, 79, 85]⟩, ⟨#[]⟩, ⟨#[]⟩, ⟨#[]⟩, ⟨#[]⟩, ⟨#[]⟩, ⟨#[87, 73, 78, 67, 72]⟩]
def nameS (n : Int) : ByteArray := (sigL[n.toNat]?).getD ⟨#[]⟩
/-- Is there such a signal? -/
def isS (n : Int) : Bool := (decide (1 ≤ n) && decide (n ≤ 15)) || ((decide (17 ≤ n) && decide (n ≤ 22)) || decide (n = 28))
def wireS (n : Int) : Bool := isS n && (decide (n ≤ 15) && (decide (n ≠ 5) && decide (n ≠ 7)))
theorem c28 {n : Int} (h1 : 1 ≤ n) (h2 : n ≤ 28) : n = 1 ∨ n = 2 ∨ n = 3 ∨ n = 4 ∨ n = 5 ∨ n = 6 ∨ n = 7 ∨ n = 8 ∨ n = 9 ∨ n = 10 ∨ n = 11 ∨ n = 12 ∨ n = 13 ∨ n = 14 ∨ n = 15 ∨ n = 16 ∨ n = 17 ∨ n = 18 ∨ n = 19 ∨ n = 20 ∨ n = 21 ∨ n = 22 ∨ n = 23 ∨ n = 24 ∨ n = 25 ∨ n = 26 ∨ n = 27 ∨ n = 28 := by omega
theorem isS_out {n : Int} (h : ¬ (1 ≤ n ∧ n ≤ 28)) : isS n = false := by
  unfold isS
  simp only [Bool.or_eq_false_iff, Bool.and_eq_false_iff, decide_eq_false_iff_not]
  omega
theorem is_any18 (n : Int) (w : World) : Calls Tryz.prog 48 #[.int .i64 n] w fun e w' => e = .returned (.bool (isS n)) ∧ Only [] w w' := by
  by_cases h : 1 ≤ n ∧ n ≤ 28
  · rcases c28 h.1 h.2 with  rfl | rfl | rfl | rfl | rfl | rfl | rfl | rfl | rfl | rfl | rfl | rfl | rfl | rfl | rfl | rfl | rfl | rfl | rfl | rfl | rfl | rfl | rfl | rfl | rfl | rfl | rfl | rfl 
    · refine Hs.enter Tryz.func48 [] [] [] [.c (.v (.int .i64 1))] (Mem.start0 w) (by kernel_rfl) (by kernel_rfl) ?_
      refine Hs.runK [46] 1000 1 Tryz.func48 rfl (by kernel_rfl) (fun ν => by kernel_rfl) (fun ν => by kernel_rfl) fun ν hν => ?_
      exact Hs.ret (v := (.bool (isS 1))) Tryz.func48 (by kernel_rfl) fun w' H => ⟨rfl, H.only⟩
    · refine Hs.enter Tryz.func48 [] [] [] [.c (.v (.int .i64 2))] (Mem.start0 w) (by kernel_rfl) (by kernel_rfl) ?_
      refine Hs.runK [46] 1000 1 Tryz.func48 rfl (by kernel_rfl) (fun ν => by kernel_rfl) (fun ν => by kernel_rfl) fun ν hν => ?_
      exact Hs.ret (v := (.bool (isS 2))) Tryz.func48 (by kernel_rfl) fun w' H => ⟨rfl, H.only⟩
    · refine Hs.enter Tryz.func48 [] [] [] [.c (.v (.int .i64 3))] (Mem.start0 w) (by kernel_rfl) (by kernel_rfl) ?_
      refine Hs.runK [46] 1000 1 Tryz.func48 rfl (by kernel_rfl) (fun ν => by kernel_rfl) (fun ν => by kernel_rfl) fun ν hν => ?_
      exact Hs.ret (v := (.bool (isS 3))) Tryz.func48 (by kernel_rfl) fun w' H => ⟨rfl, H.only⟩
    · refine Hs.enter Tryz.func48 [] [] [] [.c (.v (.int .i64 4))] (Mem.start0 w) (by kernel_rfl) (by kernel_rfl) ?_
      refine Hs.runK [46] 1000 1 Tryz.func48 rfl (by kernel_rfl) (fun ν => by kernel_rfl) (fun ν => by kernel_rfl) fun ν hν => ?_
      exact Hs.ret (v := (.bool (isS 4))) Tryz.func48 (by kernel_rfl) fun w' H => ⟨rfl, H.only⟩
    · refine Hs.enter Tryz.func48 [] [] [] [.c (.v (.int .i64 5))] (Mem.start0 w) (by kernel_rfl) (by kernel_rfl) ?_
      refine Hs.runK [46] 1000 1 Tryz.func48 rfl (by kernel_rfl) (fun ν => by kernel_rfl) (fun ν => by kernel_rfl) fun ν hν => ?_
      exact Hs.ret (v := (.bool (isS 5))) Tryz.func48 (by kernel_rfl) fun w' H => ⟨rfl, H.only⟩
    · refine Hs.enter Tryz.func48 [] [] [] [.c (.v (.int .i64 6))] (Mem.start0 w) (by kernel_rfl) (by kernel_rfl) ?_
      refine Hs.runK [46] 1000 1 Tryz.func48 rfl (by kernel_rfl) (fun ν => by kernel_rfl) (fun ν => by kernel_rfl) fun ν hν => ?_
      exact Hs.ret (v := (.bool (isS 6))) Tryz.func48 (by kernel_rfl) fun w' H => ⟨rfl, H.only⟩
    · refine Hs.enter Tryz.func48 [] [] [] [.c (.v (.int .i64 7))] (Mem.start0 w) (by kernel_rfl) (by kernel_rfl) ?_
      refine Hs.runK [46] 1000 1 Tryz.func48 rfl (by kernel_rfl) (fun ν => by kernel_rfl) (fun ν => by kernel_rfl) fun ν hν => ?_
      exact Hs.ret (v := (.bool (isS 7))) Tryz.func48 (by kernel_rfl) fun w' H => ⟨rfl, H.only⟩
    · refine Hs.enter Tryz.func48 [] [] [] [.c (.v (.int .i64 8))] (Mem.start0 w) (by kernel_rfl) (by kernel_rfl) ?_
      refine Hs.runK [46] 1000 1 Tryz.func48 rfl (by kernel_rfl) (fun ν => by kernel_rfl) (fun ν => by kernel_rfl) fun ν hν => ?_
      exact Hs.ret (v := (.bool (isS 8))) Tryz.func48 (by kernel_rfl) fun w' H => ⟨rfl, H.only⟩
    · refine Hs.enter Tryz.func48 [] [] [] [.c (.v (.int .i64 9))] (Mem.start0 w) (by kernel_rfl) (by kernel_rfl) ?_
      refine Hs.runK [46] 1000 1 Tryz.func48 rfl (by kernel_rfl) (fun ν => by kernel_rfl) (fun ν => by kernel_rfl) fun ν hν => ?_
      exact Hs.ret (v := (.bool (isS 9))) Tryz.func48 (by kernel_rfl) fun w' H => ⟨rfl, H.only⟩
    · refine Hs.enter Tryz.func48 [] [] [] [.c (.v (.int .i64 10))] (Mem.start0 w) (by kernel_rfl) (by kernel_rfl) ?_
      refine Hs.runK [46] 1000 1 Tryz.func48 rfl (by kernel_rfl) (fun ν => by kernel_rfl) (fun ν => by kernel_rfl) fun ν hν => ?_
      exact Hs.ret (v := (.bool (isS 10))) Tryz.func48 (by kernel_rfl) fun w' H => ⟨rfl, H.only⟩
    · refine Hs.enter Tryz.func48 [] [] [] [.c (.v (.int .i64 11))] (Mem.start0 w) (by kernel_rfl) (by kernel_rfl) ?_
      refine Hs.runK [46] 1000 1 Tryz.func48 rfl (by kernel_rfl) (fun ν => by kernel_rfl) (fun ν => by kernel_rfl) fun ν hν => ?_
      exact Hs.ret (v := (.bool (isS 11))) Tryz.func48 (by kernel_rfl) fun w' H => ⟨rfl, H.only⟩
    · refine Hs.enter Tryz.func48 [] [] [] [.c (.v (.int .i64 12))] (Mem.start0 w) (by kernel_rfl) (by kernel_rfl) ?_
      refine Hs.runK [46] 1000 1 Tryz.func48 rfl (by kernel_rfl) (fun ν => by kernel_rfl) (fun ν => by kernel_rfl) fun ν hν => ?_
      exact Hs.ret (v := (.bool (isS 12))) Tryz.func48 (by kernel_rfl) fun w' H => ⟨rfl, H.only⟩
    · refine Hs.enter Tryz.func48 [] [] [] [.c (.v (.int .i64 13))] (Mem.start0 w) (by kernel_rfl) (by kernel_rfl) ?_
      refine Hs.runK [46] 1000 1 Tryz.func48 rfl (by kernel_rfl) (fun ν => by kernel_rfl) (fun ν => by kernel_rfl) fun ν hν => ?_
      exact Hs.ret (v := (.bool (isS 13))) Tryz.func48 (by kernel_rfl) fun w' H => ⟨rfl, H.only⟩
    · refine Hs.enter Tryz.func48 [] [] [] [.c (.v (.int .i64 14))] (Mem.start0 w) (by kernel_rfl) (by kernel_rfl) ?_
      refine Hs.runK [46] 1000 1 Tryz.func48 rfl (by kernel_rfl) (fun ν => by kernel_rfl) (fun ν => by kernel_rfl) fun ν hν => ?_
      exact Hs.ret (v := (.bool (isS 14))) Tryz.func48 (by kernel_rfl) fun w' H => ⟨rfl, H.only⟩
    · refine Hs.enter Tryz.func48 [] [] [] [.c (.v (.int .i64 15))] (Mem.start0 w) (by kernel_rfl) (by kernel_rfl) ?_
      refine Hs.runK [46] 1000 1 Tryz.func48 rfl (by kernel_rfl) (fun ν => by kernel_rfl) (fun ν => by kernel_rfl) fun ν hν => ?_
      exact Hs.ret (v := (.bool (isS 15))) Tryz.func48 (by kernel_rfl) fun w' H => ⟨rfl, H.only⟩
    · refine Hs.enter Tryz.func48 [] [] [] [.c (.v (.int .i64 16))] (Mem.start0 w) (by kernel_rfl) (by kernel_rfl) ?_
      refine Hs.runK [46] 1000 1 Tryz.func48 rfl (by kernel_rfl) (fun ν => by kernel_rfl) (fun ν => by kernel_rfl) fun ν hν => ?_
      exact Hs.ret (v := (.bool (isS 16))) Tryz.func48 (by kernel_rfl) fun w' H => ⟨rfl, H.only⟩
    · refine Hs.enter Tryz.func48 [] [] [] [.c (.v (.int .i64 17))] (Mem.start0 w) (by kernel_rfl) (by kernel_rfl) ?_
      refine Hs.runK [46] 1000 1 Tryz.func48 rfl (by kernel_rfl) (fun ν => by kernel_rfl) (fun ν => by kernel_rfl) fun ν hν => ?_
      exact Hs.ret (v := (.bool (isS 17))) Tryz.func48 (by kernel_rfl) fun w' H => ⟨rfl, H.only⟩
    · refine Hs.enter Tryz.func48 [] [] [] [.c (.v (.int .i64 18))] (Mem.start0 w) (by kernel_rfl) (by kernel_rfl) ?_
      refine Hs.runK [46] 1000 1 Tryz.func48 rfl (by kernel_rfl) (fun ν => by kernel_rfl) (fun ν => by kernel_rfl) fun ν hν => ?_
      exact Hs.ret (v := (.bool (isS 18))) Tryz.func48 (by kernel_rfl) fun w' H => ⟨rfl, H.only⟩
    · refine Hs.enter Tryz.func48 [] [] [] [.c (.v (.int .i64 19))] (Mem.start0 w) (by kernel_rfl) (by kernel_rfl) ?_
      refine Hs.runK [46] 1000 1 Tryz.func48 rfl (by kernel_rfl) (fun ν => by kernel_rfl) (fun ν => by kernel_rfl) fun ν hν => ?_
      exact Hs.ret (v := (.bool (isS 19))) Tryz.func48 (by kernel_rfl) fun w' H => ⟨rfl, H.only⟩
    · refine Hs.enter Tryz.func48 [] [] [] [.c (.v (.int .i64 20))] (Mem.start0 w) (by kernel_rfl) (by kernel_rfl) ?_
      refine Hs.runK [46] 1000 1 Tryz.func48 rfl (by kernel_rfl) (fun ν => by kernel_rfl) (fun ν => by kernel_rfl) fun ν hν => ?_
      exact Hs.ret (v := (.bool (isS 20))) Tryz.func48 (by kernel_rfl) fun w' H => ⟨rfl, H.only⟩
    · refine Hs.enter Tryz.func48 [] [] [] [.c (.v (.int .i64 21))] (Mem.start0 w) (by kernel_rfl) (by kernel_rfl) ?_
      refine Hs.runK [46] 1000 1 Tryz.func48 rfl (by kernel_rfl) (fun ν => by kernel_rfl) (fun ν => by kernel_rfl) fun ν hν => ?_
      exact Hs.ret (v := (.bool (isS 21))) Tryz.func48 (by kernel_rfl) fun w' H => ⟨rfl, H.only⟩
    · refine Hs.enter Tryz.func48 [] [] [] [.c (.v (.int .i64 22))] (Mem.start0 w) (by kernel_rfl) (by kernel_rfl) ?_
      refine Hs.runK [46] 1000 1 Tryz.func48 rfl (by kernel_rfl) (fun ν => by kernel_rfl) (fun ν => by kernel_rfl) fun ν hν => ?_
      exact Hs.ret (v := (.bool (isS 22))) Tryz.func48 (by kernel_rfl) fun w' H => ⟨rfl, H.only⟩
    · refine Hs.enter Tryz.func48 [] [] [] [.c (.v (.int .i64 23))] (Mem.start0 w) (by kernel_rfl) (by kernel_rfl) ?_
      refine Hs.runK [46] 1000 1 Tryz.func48 rfl (by kernel_rfl) (fun ν => by kernel_rfl) (fun ν => by kernel_rfl) fun ν hν => ?_
      exact Hs.ret (v := (.bool (isS 23))) Tryz.func48 (by kernel_rfl) fun w' H => ⟨rfl, H.only⟩
    · refine Hs.enter Tryz.func48 [] [] [] [.c (.v (.int .i64 24))] (Mem.start0 w) (by kernel_rfl) (by kernel_rfl) ?_
      refine Hs.runK [46] 1000 1 Tryz.func48 rfl (by kernel_rfl) (fun ν => by kernel_rfl) (fun ν => by kernel_rfl) fun ν hν => ?_
      exact Hs.ret (v := (.bool (isS 24))) Tryz.func48 (by kernel_rfl) fun w' H => ⟨rfl, H.only⟩
    · refine Hs.enter Tryz.func48 [] [] [] [.c (.v (.int .i64 25))] (Mem.start0 w) (by kernel_rfl) (by kernel_rfl) ?_
      refine Hs.runK [46] 1000 1 Tryz.func48 rfl (by kernel_rfl) (fun ν => by kernel_rfl) (fun ν => by kernel_rfl) fun ν hν => ?_
      exact Hs.ret (v := (.bool (isS 25))) Tryz.func48 (by kernel_rfl) fun w' H => ⟨rfl, H.only⟩
    · refine Hs.enter Tryz.func48 [] [] [] [.c (.v (.int .i64 26))] (Mem.start0 w) (by kernel_rfl) (by kernel_rfl) ?_
      refine Hs.runK [46] 1000 1 Tryz.func48 rfl (by kernel_rfl) (fun ν => by kernel_rfl) (fun ν => by kernel_rfl) fun ν hν => ?_
      exact Hs.ret (v := (.bool (isS 26))) Tryz.func48 (by kernel_rfl) fun w' H => ⟨rfl, H.only⟩
    · refine Hs.enter Tryz.func48 [] [] [] [.c (.v (.int .i64 27))] (Mem.start0 w) (by kernel_rfl) (by kernel_rfl) ?_
      refine Hs.runK [46] 1000 1 Tryz.func48 rfl (by kernel_rfl) (fun ν => by kernel_rfl) (fun ν => by kernel_rfl) fun ν hν => ?_
      exact Hs.ret (v := (.bool (isS 27))) Tryz.func48 (by kernel_rfl) fun w' H => ⟨rfl, H.only⟩
    · refine Hs.enter Tryz.func48 [] [] [] [.c (.v (.int .i64 28))] (Mem.start0 w) (by kernel_rfl) (by kernel_rfl) ?_
      refine Hs.runK [46] 1000 1 Tryz.func48 rfl (by kernel_rfl) (fun ν => by kernel_rfl) (fun ν => by kernel_rfl) fun ν hν => ?_
      exact Hs.ret (v := (.bool (isS 28))) Tryz.func48 (by kernel_rfl) fun w' H => ⟨rfl, H.only⟩
  · have e : isS n = false := isS_out h
    rw [e]
    refine Hs.enter Tryz.func48 [] [] [] [.c (.v (.int .i64 n))] (Mem.start0 w) (by kernel_rfl) (by kernel_rfl) ?_
    refine Hs.run0 300 (fun _ => by kernel_rfl) ?_
    refine Hs.bool 5 (decide (n > 0)) (by kernel_rfl) (fun h1 => ?_) (fun h1 => ?_)
    · replace h1 : n > 0 := by simpa using h1
      refine Hs.rung0 [2] 300 (fun _ => by kernel_rfl) ?_
      refine Hs.bool 9 (decide (n ≤ 28)) (by kernel_rfl) (fun h2 => absurd ⟨h1, by simpa using h2⟩ h) (fun h2 => ?_)
      refine Hs.rung0 [2, 6] 300 (fun _ => by kernel_rfl) ?_
      exact Hs.ret (v := .bool false) Tryz.func48 (by kernel_rfl) fun w' H => ⟨rfl, H.only⟩
    · refine Hs.rung0 [2, 6] 300 (fun _ => by kernel_rfl) ?_
      exact Hs.ret (v := .bool false) Tryz.func48 (by kernel_rfl) fun w' H => ⟨rfl, H.only⟩
theorem name_any18 (n : Int) (w : World) : Calls Tryz.prog 40 #[.int .i64 n] w fun e w' => e = .returned (.tuple #[.string (if isS n then nameS n else ⟨#[]⟩), .bool (isS n)]) ∧ Only [] w w' := by
  by_cases h : 1 ≤ n ∧ n ≤ 28
  · rcases c28 h.1 h.2 with  rfl | rfl | rfl | rfl | rfl | rfl | rfl | rfl | rfl | rfl | rfl | rfl | rfl | rfl | rfl | rfl | rfl | rfl | rfl | rfl | rfl | rfl | rfl | rfl | rfl | rfl | rfl | rfl 
    · refine Hs.enter Tryz.func40 [] [] [] [.c (.v (.int .i64 1))] (Mem.start0 w) (by kernel_rfl) (by kernel_rfl) ?_
      refine Hs.runK [46, 48] 1000 2 Tryz.func40 rfl (by kernel_rfl) (fun ν => by kernel_rfl) (fun ν => by kernel_rfl) fun ν hν => ?_
      exact Hs.ret (v := (.tuple #[.string (if isS 1 then nameS 1 else ⟨#[]⟩), .bool (isS 1)])) Tryz.func40 (by kernel_rfl) fun w' H => ⟨rfl, H.only⟩
    · refine Hs.enter Tryz.func40 [] [] [] [.c (.v (.int .i64 2))] (Mem.start0 w) (by kernel_rfl) (by kernel_rfl) ?_
      refine Hs.runK [46, 48] 1000 2 Tryz.func40 rfl (by kernel_rfl) (fun ν => by kernel_rfl) (fun ν => by kernel_rfl) fun ν hν => ?_
      exact Hs.ret (v := (.tuple #[.string (if isS 2 then nameS 2 else ⟨#[]⟩), .bool (isS 2)])) Tryz.func40 (by kernel_rfl) fun w' H => ⟨rfl, H.only⟩
    · refine Hs.enter Tryz.func40 [] [] [] [.c (.v (.int .i64 3))] (Mem.start0 w) (by kernel_rfl) (by kernel_rfl) ?_
      refine Hs.runK [46, 48] 1000 2 Tryz.func40 rfl (by kernel_rfl) (fun ν => by kernel_rfl) (fun ν => by kernel_rfl) fun ν hν => ?_
      exact Hs.ret (v := (.tuple #[.string (if isS 3 then nameS 3 else ⟨#[]⟩), .bool (isS 3)])) Tryz.func40 (by kernel_rfl) fun w' H => ⟨rfl, H.only⟩
    · refine Hs.enter Tryz.func40 [] [] [] [.c (.v (.int .i64 4))] (Mem.start0 w) (by kernel_rfl) (by kernel_rfl) ?_
      refine Hs.runK [46, 48] 1000 2 Tryz.func40 rfl (by kernel_rfl) (fun ν => by kernel_rfl) (fun ν => by kernel_rfl) fun ν hν => ?_
      exact Hs.ret (v := (.tuple #[.string (if isS 4 then nameS 4 else ⟨#[]⟩), .bool (isS 4)])) Tryz.func40 (by kernel_rfl) fun w' H => ⟨rfl, H.only⟩
    · refine Hs.enter Tryz.func40 [] [] [] [.c (.v (.int .i64 5))] (Mem.start0 w) (by kernel_rfl) (by kernel_rfl) ?_
      refine Hs.runK [46, 48] 1000 2 Tryz.func40 rfl (by kernel_rfl) (fun ν => by kernel_rfl) (fun ν => by kernel_rfl) fun ν hν => ?_
      exact Hs.ret (v := (.tuple #[.string (if isS 5 then nameS 5 else ⟨#[]⟩), .bool (isS 5)])) Tryz.func40 (by kernel_rfl) fun w' H => ⟨rfl, H.only⟩
    · refine Hs.enter Tryz.func40 [] [] [] [.c (.v (.int .i64 6))] (Mem.start0 w) (by kernel_rfl) (by kernel_rfl) ?_
      refine Hs.runK [46, 48] 1000 2 Tryz.func40 rfl (by kernel_rfl) (fun ν => by kernel_rfl) (fun ν => by kernel_rfl) fun ν hν => ?_
      exact Hs.ret (v := (.tuple #[.string (if isS 6 then nameS 6 else ⟨#[]⟩), .bool (isS 6)])) Tryz.func40 (by kernel_rfl) fun w' H => ⟨rfl, H.only⟩
    · refine Hs.enter Tryz.func40 [] [] [] [.c (.v (.int .i64 7))] (Mem.start0 w) (by kernel_rfl) (by kernel_rfl) ?_
      refine Hs.runK [46, 48] 1000 2 Tryz.func40 rfl (by kernel_rfl) (fun ν => by kernel_rfl) (fun ν => by kernel_rfl) fun ν hν => ?_
      exact Hs.ret (v := (.tuple #[.string (if isS 7 then nameS 7 else ⟨#[]⟩), .bool (isS 7)])) Tryz.func40 (by kernel_rfl) fun w' H => ⟨rfl, H.only⟩
    · refine Hs.enter Tryz.func40 [] [] [] [.c (.v (.int .i64 8))] (Mem.start0 w) (by kernel_rfl) (by kernel_rfl) ?_
      refine Hs.runK [46, 48] 1000 2 Tryz.func40 rfl (by kernel_rfl) (fun ν => by kernel_rfl) (fun ν => by kernel_rfl) fun ν hν => ?_
      exact Hs.ret (v := (.tuple #[.string (if isS 8 then nameS 8 else ⟨#[]⟩), .bool (isS 8)])) Tryz.func40 (by kernel_rfl) fun w' H => ⟨rfl, H.only⟩
    · refine Hs.enter Tryz.func40 [] [] [] [.c (.v (.int .i64 9))] (Mem.start0 w) (by kernel_rfl) (by kernel_rfl) ?_
      refine Hs.runK [46, 48] 1000 2 Tryz.func40 rfl (by kernel_rfl) (fun ν => by kernel_rfl) (fun ν => by kernel_rfl) fun ν hν => ?_
      exact Hs.ret (v := (.tuple #[.string (if isS 9 then nameS 9 else ⟨#[]⟩), .bool (isS 9)])) Tryz.func40 (by kernel_rfl) fun w' H => ⟨rfl, H.only⟩
    · refine Hs.enter Tryz.func40 [] [] [] [.c (.v (.int .i64 10))] (Mem.start0 w) (by kernel_rfl) (by kernel_rfl) ?_
      refine Hs.runK [46, 48] 1000 2 Tryz.func40 rfl (by kernel_rfl) (fun ν => by kernel_rfl) (fun ν => by kernel_rfl) fun ν hν => ?_
      exact Hs.ret (v := (.tuple #[.string (if isS 10 then nameS 10 else ⟨#[]⟩), .bool (isS 10)])) Tryz.func40 (by kernel_rfl) fun w' H => ⟨rfl, H.only⟩
    · refine Hs.enter Tryz.func40 [] [] [] [.c (.v (.int .i64 11))] (Mem.start0 w) (by kernel_rfl) (by kernel_rfl) ?_
      refine Hs.runK [46, 48] 1000 2 Tryz.func40 rfl (by kernel_rfl) (fun ν => by kernel_rfl) (fun ν => by kernel_rfl) fun ν hν => ?_
      exact Hs.ret (v := (.tuple #[.string (if isS 11 then nameS 11 else ⟨#[]⟩), .bool (isS 11)])) Tryz.func40 (by kernel_rfl) fun w' H => ⟨rfl, H.only⟩
    · refine Hs.enter Tryz.func40 [] [] [] [.c (.v (.int .i64 12))] (Mem.start0 w) (by kernel_rfl) (by kernel_rfl) ?_
      refine Hs.runK [46, 48] 1000 2 Tryz.func40 rfl (by kernel_rfl) (fun ν => by kernel_rfl) (fun ν => by kernel_rfl) fun ν hν => ?_
      exact Hs.ret (v := (.tuple #[.string (if isS 12 then nameS 12 else ⟨#[]⟩), .bool (isS 12)])) Tryz.func40 (by kernel_rfl) fun w' H => ⟨rfl, H.only⟩
    · refine Hs.enter Tryz.func40 [] [] [] [.c (.v (.int .i64 13))] (Mem.start0 w) (by kernel_rfl) (by kernel_rfl) ?_
      refine Hs.runK [46, 48] 1000 2 Tryz.func40 rfl (by kernel_rfl) (fun ν => by kernel_rfl) (fun ν => by kernel_rfl) fun ν hν => ?_
      exact Hs.ret (v := (.tuple #[.string (if isS 13 then nameS 13 else ⟨#[]⟩), .bool (isS 13)])) Tryz.func40 (by kernel_rfl) fun w' H => ⟨rfl, H.only⟩
    · refine Hs.enter Tryz.func40 [] [] [] [.c (.v (.int .i64 14))] (Mem.start0 w) (by kernel_rfl) (by kernel_rfl) ?_
      refine Hs.runK [46, 48] 1000 2 Tryz.func40 rfl (by kernel_rfl) (fun ν => by kernel_rfl) (fun ν => by kernel_rfl) fun ν hν => ?_
      exact Hs.ret (v := (.tuple #[.string (if isS 14 then nameS 14 else ⟨#[]⟩), .bool (isS 14)])) Tryz.func40 (by kernel_rfl) fun w' H => ⟨rfl, H.only⟩
    · refine Hs.enter Tryz.func40 [] [] [] [.c (.v (.int .i64 15))] (Mem.start0 w) (by kernel_rfl) (by kernel_rfl) ?_
      refine Hs.runK [46, 48] 1000 2 Tryz.func40 rfl (by kernel_rfl) (fun ν => by kernel_rfl) (fun ν => by kernel_rfl) fun ν hν => ?_
      exact Hs.ret (v := (.tuple #[.string (if isS 15 then nameS 15 else ⟨#[]⟩), .bool (isS 15)])) Tryz.func40 (by kernel_rfl) fun w' H => ⟨rfl, H.only⟩
    · refine Hs.enter Tryz.func40 [] [] [] [.c (.v (.int .i64 16))] (Mem.start0 w) (by kernel_rfl) (by kernel_rfl) ?_
      refine Hs.runK [46, 48] 1000 1 Tryz.func40 rfl (by kernel_rfl) (fun ν => by kernel_rfl) (fun ν => by kernel_rfl) fun ν hν => ?_
      exact Hs.ret (v := (.tuple #[.string (if isS 16 then nameS 16 else ⟨#[]⟩), .bool (isS 16)])) Tryz.func40 (by kernel_rfl) fun w' H => ⟨rfl, H.only⟩
    · refine Hs.enter Tryz.func40 [] [] [] [.c (.v (.int .i64 17))] (Mem.start0 w) (by kernel_rfl) (by kernel_rfl) ?_
      refine Hs.runK [46, 48] 1000 2 Tryz.func40 rfl (by kernel_rfl) (fun ν => by kernel_rfl) (fun ν => by kernel_rfl) fun ν hν => ?_
      exact Hs.ret (v := (.tuple #[.string (if isS 17 then nameS 17 else ⟨#[]⟩), .bool (isS 17)])) Tryz.func40 (by kernel_rfl) fun w' H => ⟨rfl, H.only⟩
    · refine Hs.enter Tryz.func40 [] [] [] [.c (.v (.int .i64 18))] (Mem.start0 w) (by kernel_rfl) (by kernel_rfl) ?_
      refine Hs.runK [46, 48] 1000 2 Tryz.func40 rfl (by kernel_rfl) (fun ν => by kernel_rfl) (fun ν => by kernel_rfl) fun ν hν => ?_
      exact Hs.ret (v := (.tuple #[.string (if isS 18 then nameS 18 else ⟨#[]⟩), .bool (isS 18)])) Tryz.func40 (by kernel_rfl) fun w' H => ⟨rfl, H.only⟩
    · refine Hs.enter Tryz.func40 [] [] [] [.c (.v (.int .i64 19))] (Mem.start0 w) (by kernel_rfl) (by kernel_rfl) ?_
      refine Hs.runK [46, 48] 1000 2 Tryz.func40 rfl (by kernel_rfl) (fun ν => by kernel_rfl) (fun ν => by kernel_rfl) fun ν hν => ?_
      exact Hs.ret (v := (.tuple #[.string (if isS 19 then nameS 19 else ⟨#[]⟩), .bool (isS 19)])) Tryz.func40 (by kernel_rfl) fun w' H => ⟨rfl, H.only⟩
    · refine Hs.enter Tryz.func40 [] [] [] [.c (.v (.int .i64 20))] (Mem.start0 w) (by kernel_rfl) (by kernel_rfl) ?_
      refine Hs.runK [46, 48] 1000 2 Tryz.func40 rfl (by kernel_rfl) (fun ν => by kernel_rfl) (fun ν => by kernel_rfl) fun ν hν => ?_
      exact Hs.ret (v := (.tuple #[.string (if isS 20 then nameS 20 else ⟨#[]⟩), .bool (isS 20)])) Tryz.func40 (by kernel_rfl) fun w' H => ⟨rfl, H.only⟩
    · refine Hs.enter Tryz.func40 [] [] [] [.c (.v (.int .i64 21))] (Mem.start0 w) (by kernel_rfl) (by kernel_rfl) ?_
      refine Hs.runK [46, 48] 1000 2 Tryz.func40 rfl (by kernel_rfl) (fun ν => by kernel_rfl) (fun ν => by kernel_rfl) fun ν hν => ?_
      exact Hs.ret (v := (.tuple #[.string (if isS 21 then nameS 21 else ⟨#[]⟩), .bool (isS 21)])) Tryz.func40 (by kernel_rfl) fun w' H => ⟨rfl, H.only⟩
    · refine Hs.enter Tryz.func40 [] [] [] [.c (.v (.int .i64 22))] (Mem.start0 w) (by kernel_rfl) (by kernel_rfl) ?_
      refine Hs.runK [46, 48] 1000 2 Tryz.func40 rfl (by kernel_rfl) (fun ν => by kernel_rfl) (fun ν => by kernel_rfl) fun ν hν => ?_
      exact Hs.ret (v := (.tuple #[.string (if isS 22 then nameS 22 else ⟨#[]⟩), .bool (isS 22)])) Tryz.func40 (by kernel_rfl) fun w' H => ⟨rfl, H.only⟩
    · refine Hs.enter Tryz.func40 [] [] [] [.c (.v (.int .i64 23))] (Mem.start0 w) (by kernel_rfl) (by kernel_rfl) ?_
      refine Hs.runK [46, 48] 1000 1 Tryz.func40 rfl (by kernel_rfl) (fun ν => by kernel_rfl) (fun ν => by kernel_rfl) fun ν hν => ?_
      exact Hs.ret (v := (.tuple #[.string (if isS 23 then nameS 23 else ⟨#[]⟩), .bool (isS 23)])) Tryz.func40 (by kernel_rfl) fun w' H => ⟨rfl, H.only⟩
    · refine Hs.enter Tryz.func40 [] [] [] [.c (.v (.int .i64 24))] (Mem.start0 w) (by kernel_rfl) (by kernel_rfl) ?_
      refine Hs.runK [46, 48] 1000 1 Tryz.func40 rfl (by kernel_rfl) (fun ν => by kernel_rfl) (fun ν => by kernel_rfl) fun ν hν => ?_
      exact Hs.ret (v := (.tuple #[.string (if isS 24 then nameS 24 else ⟨#[]⟩), .bool (isS 24)])) Tryz.func40 (by kernel_rfl) fun w' H => ⟨rfl, H.only⟩
    · refine Hs.enter Tryz.func40 [] [] [] [.c (.v (.int .i64 25))] (Mem.start0 w) (by kernel_rfl) (by kernel_rfl) ?_
      refine Hs.runK [46, 48] 1000 1 Tryz.func40 rfl (by kernel_rfl) (fun ν => by kernel_rfl) (fun ν => by kernel_rfl) fun ν hν => ?_
      exact Hs.ret (v := (.tuple #[.string (if isS 25 then nameS 25 else ⟨#[]⟩), .bool (isS 25)])) Tryz.func40 (by kernel_rfl) fun w' H => ⟨rfl, H.only⟩
    · refine Hs.enter Tryz.func40 [] [] [] [.c (.v (.int .i64 26))] (Mem.start0 w) (by kernel_rfl) (by kernel_rfl) ?_
      refine Hs.runK [46, 48] 1000 1 Tryz.func40 rfl (by kernel_rfl) (fun ν => by kernel_rfl) (fun ν => by kernel_rfl) fun ν hν => ?_
      exact Hs.ret (v := (.tuple #[.string (if isS 26 then nameS 26 else ⟨#[]⟩), .bool (isS 26)])) Tryz.func40 (by kernel_rfl) fun w' H => ⟨rfl, H.only⟩
    · refine Hs.enter Tryz.func40 [] [] [] [.c (.v (.int .i64 27))] (Mem.start0 w) (by kernel_rfl) (by kernel_rfl) ?_
      refine Hs.runK [46, 48] 1000 1 Tryz.func40 rfl (by kernel_rfl) (fun ν => by kernel_rfl) (fun ν => by kernel_rfl) fun ν hν => ?_
      exact Hs.ret (v := (.tuple #[.string (if isS 27 then nameS 27 else ⟨#[]⟩), .bool (isS 27)])) Tryz.func40 (by kernel_rfl) fun w' H => ⟨rfl, H.only⟩
    · refine Hs.enter Tryz.func40 [] [] [] [.c (.v (.int .i64 28))] (Mem.start0 w) (by kernel_rfl) (by kernel_rfl) ?_
      refine Hs.runK [46, 48] 1000 2 Tryz.func40 rfl (by kernel_rfl) (fun ν => by kernel_rfl) (fun ν => by kernel_rfl) fun ν hν => ?_
      exact Hs.ret (v := (.tuple #[.string (if isS 28 then nameS 28 else ⟨#[]⟩), .bool (isS 28)])) Tryz.func40 (by kernel_rfl) fun w' H => ⟨rfl, H.only⟩
  · have e : isS n = false := isS_out h
    rw [e]
    refine Hs.enter Tryz.func40 [] [] [] [.c (.v (.int .i64 n))] (Mem.start0 w) (by kernel_rfl) (by kernel_rfl) ?_
    refine Hs.run0 300 (fun _ => by kernel_rfl) ?_
    refine Hs.callV (fun w' H => by have := is_any18 n w'; rw [e] at this; exact this) (by kernel_rfl) ?_
    refine Hs.run0 300 (fun _ => by kernel_rfl) ?_
    refine Hs.condT (by kernel_rfl) ?_
    refine Hs.run0 300 (fun _ => by kernel_rfl) ?_
    exact Hs.ret (v := .tuple #[.string ⟨#[]⟩, .bool false]) Tryz.func40 (by kernel_rfl) fun w' H => ⟨rfl, H.only⟩
theorem wire_any18 (n : Int) (w : World) : Calls Tryz.prog 25 #[.int .i64 n] w fun e w' => e = .returned (.bool (wireS n)) ∧ Only [] w w' := by
  by_cases h : 1 ≤ n ∧ n ≤ 28
  · rcases c28 h.1 h.2 with  rfl | rfl | rfl | rfl | rfl | rfl | rfl | rfl | rfl | rfl | rfl | rfl | rfl | rfl | rfl | rfl | rfl | rfl | rfl | rfl | rfl | rfl | rfl | rfl | rfl | rfl | rfl | rfl 
    · refine Hs.enter Tryz.func25 [] [] [] [.c (.v (.int .i64 1))] (Mem.start0 w) (by kernel_rfl) (by kernel_rfl) ?_
      refine Hs.runK [46, 48] 1000 1 Tryz.func25 rfl (by kernel_rfl) (fun ν => by kernel_rfl) (fun ν => by kernel_rfl) fun ν hν => ?_
      exact Hs.ret (v := (.bool (wireS 1))) Tryz.func25 (by kernel_rfl) fun w' H => ⟨rfl, H.only⟩
    · refine Hs.enter Tryz.func25 [] [] [] [.c (.v (.int .i64 2))] (Mem.start0 w) (by kernel_rfl) (by kernel_rfl) ?_
      refine Hs.runK [46, 48] 1000 1 Tryz.func25 rfl (by kernel_rfl) (fun ν => by kernel_rfl) (fun ν => by kernel_rfl) fun ν hν => ?_
      exact Hs.ret (v := (.bool (wireS 2))) Tryz.func25 (by kernel_rfl) fun w' H => ⟨rfl, H.only⟩
    · refine Hs.enter Tryz.func25 [] [] [] [.c (.v (.int .i64 3))] (Mem.start0 w) (by kernel_rfl) (by kernel_rfl) ?_
      refine Hs.runK [46, 48] 1000 1 Tryz.func25 rfl (by kernel_rfl) (fun ν => by kernel_rfl) (fun ν => by kernel_rfl) fun ν hν => ?_
      exact Hs.ret (v := (.bool (wireS 3))) Tryz.func25 (by kernel_rfl) fun w' H => ⟨rfl, H.only⟩
    · refine Hs.enter Tryz.func25 [] [] [] [.c (.v (.int .i64 4))] (Mem.start0 w) (by kernel_rfl) (by kernel_rfl) ?_
      refine Hs.runK [46, 48] 1000 1 Tryz.func25 rfl (by kernel_rfl) (fun ν => by kernel_rfl) (fun ν => by kernel_rfl) fun ν hν => ?_
      exact Hs.ret (v := (.bool (wireS 4))) Tryz.func25 (by kernel_rfl) fun w' H => ⟨rfl, H.only⟩
    · refine Hs.enter Tryz.func25 [] [] [] [.c (.v (.int .i64 5))] (Mem.start0 w) (by kernel_rfl) (by kernel_rfl) ?_
      refine Hs.runK [46, 48] 1000 0 Tryz.func25 rfl (by kernel_rfl) (fun ν => by kernel_rfl) (fun ν => by kernel_rfl) fun ν hν => ?_
      exact Hs.ret (v := (.bool (wireS 5))) Tryz.func25 (by kernel_rfl) fun w' H => ⟨rfl, H.only⟩
    · refine Hs.enter Tryz.func25 [] [] [] [.c (.v (.int .i64 6))] (Mem.start0 w) (by kernel_rfl) (by kernel_rfl) ?_
      refine Hs.runK [46, 48] 1000 1 Tryz.func25 rfl (by kernel_rfl) (fun ν => by kernel_rfl) (fun ν => by kernel_rfl) fun ν hν => ?_
      exact Hs.ret (v := (.bool (wireS 6))) Tryz.func25 (by kernel_rfl) fun w' H => ⟨rfl, H.only⟩
    · refine Hs.enter Tryz.func25 [] [] [] [.c (.v (.int .i64 7))] (Mem.start0 w) (by kernel_rfl) (by kernel_rfl) ?_
      refine Hs.runK [46, 48] 1000 0 Tryz.func25 rfl (by kernel_rfl) (fun ν => by kernel_rfl) (fun ν => by kernel_rfl) fun ν hν => ?_
      exact Hs.ret (v := (.bool (wireS 7))) Tryz.func25 (by kernel_rfl) fun w' H => ⟨rfl, H.only⟩
    · refine Hs.enter Tryz.func25 [] [] [] [.c (.v (.int .i64 8))] (Mem.start0 w) (by kernel_rfl) (by kernel_rfl) ?_
      refine Hs.runK [46, 48] 1000 1 Tryz.func25 rfl (by kernel_rfl) (fun ν => by kernel_rfl) (fun ν => by kernel_rfl) fun ν hν => ?_
      exact Hs.ret (v := (.bool (wireS 8))) Tryz.func25 (by kernel_rfl) fun w' H => ⟨rfl, H.only⟩
    · refine Hs.enter Tryz.func25 [] [] [] [.c (.v (.int .i64 9))] (Mem.start0 w) (by kernel_rfl) (by kernel_rfl) ?_
      refine Hs.runK [46, 48] 1000 1 Tryz.func25 rfl (by kernel_rfl) (fun ν => by kernel_rfl) (fun ν => by kernel_rfl) fun ν hν => ?_
      exact Hs.ret (v := (.bool (wireS 9))) Tryz.func25 (by kernel_rfl) fun w' H => ⟨rfl, H.only⟩
    · refine Hs.enter Tryz.func25 [] [] [] [.c (.v (.int .i64 10))] (Mem.start0 w) (by kernel_rfl) (by kernel_rfl) ?_
      refine Hs.runK [46, 48] 1000 1 Tryz.func25 rfl (by kernel_rfl) (fun ν => by kernel_rfl) (fun ν => by kernel_rfl) fun ν hν => ?_
      exact Hs.ret (v := (.bool (wireS 10))) Tryz.func25 (by kernel_rfl) fun w' H => ⟨rfl, H.only⟩
    · refine Hs.enter Tryz.func25 [] [] [] [.c (.v (.int .i64 11))] (Mem.start0 w) (by kernel_rfl) (by kernel_rfl) ?_
      refine Hs.runK [46, 48] 1000 1 Tryz.func25 rfl (by kernel_rfl) (fun ν => by kernel_rfl) (fun ν => by kernel_rfl) fun ν hν => ?_
      exact Hs.ret (v := (.bool (wireS 11))) Tryz.func25 (by kernel_rfl) fun w' H => ⟨rfl, H.only⟩
    · refine Hs.enter Tryz.func25 [] [] [] [.c (.v (.int .i64 12))] (Mem.start0 w) (by kernel_rfl) (by kernel_rfl) ?_
      refine Hs.runK [46, 48] 1000 1 Tryz.func25 rfl (by kernel_rfl) (fun ν => by kernel_rfl) (fun ν => by kernel_rfl) fun ν hν => ?_
      exact Hs.ret (v := (.bool (wireS 12))) Tryz.func25 (by kernel_rfl) fun w' H => ⟨rfl, H.only⟩
    · refine Hs.enter Tryz.func25 [] [] [] [.c (.v (.int .i64 13))] (Mem.start0 w) (by kernel_rfl) (by kernel_rfl) ?_
      refine Hs.runK [46, 48] 1000 1 Tryz.func25 rfl (by kernel_rfl) (fun ν => by kernel_rfl) (fun ν => by kernel_rfl) fun ν hν => ?_
      exact Hs.ret (v := (.bool (wireS 13))) Tryz.func25 (by kernel_rfl) fun w' H => ⟨rfl, H.only⟩
    · refine Hs.enter Tryz.func25 [] [] [] [.c (.v (.int .i64 14))] (Mem.start0 w) (by kernel_rfl) (by kernel_rfl) ?_
      refine Hs.runK [46, 48] 1000 1 Tryz.func25 rfl (by kernel_rfl) (fun ν => by kernel_rfl) (fun ν => by kernel_rfl) fun ν hν => ?_
      exact Hs.ret (v := (.bool (wireS 14))) Tryz.func25 (by kernel_rfl) fun w' H => ⟨rfl, H.only⟩
    · refine Hs.enter Tryz.func25 [] [] [] [.c (.v (.int .i64 15))] (Mem.start0 w) (by kernel_rfl) (by kernel_rfl) ?_
      refine Hs.runK [46, 48] 1000 1 Tryz.func25 rfl (by kernel_rfl) (fun ν => by kernel_rfl) (fun ν => by kernel_rfl) fun ν hν => ?_
      exact Hs.ret (v := (.bool (wireS 15))) Tryz.func25 (by kernel_rfl) fun w' H => ⟨rfl, H.only⟩
    · refine Hs.enter Tryz.func25 [] [] [] [.c (.v (.int .i64 16))] (Mem.start0 w) (by kernel_rfl) (by kernel_rfl) ?_
      refine Hs.runK [46, 48] 1000 1 Tryz.func25 rfl (by kernel_rfl) (fun ν => by kernel_rfl) (fun ν => by kernel_rfl) fun ν hν => ?_
      exact Hs.ret (v := (.bool (wireS 16))) Tryz.func25 (by kernel_rfl) fun w' H => ⟨rfl, H.only⟩
    · refine Hs.enter Tryz.func25 [] [] [] [.c (.v (.int .i64 17))] (Mem.start0 w) (by kernel_rfl) (by kernel_rfl) ?_
      refine Hs.runK [46, 48] 1000 1 Tryz.func25 rfl (by kernel_rfl) (fun ν => by kernel_rfl) (fun ν => by kernel_rfl) fun ν hν => ?_
      exact Hs.ret (v := (.bool (wireS 17))) Tryz.func25 (by kernel_rfl) fun w' H => ⟨rfl, H.only⟩
    · refine Hs.enter Tryz.func25 [] [] [] [.c (.v (.int .i64 18))] (Mem.start0 w) (by kernel_rfl) (by kernel_rfl) ?_
      refine Hs.runK [46, 48] 1000 1 Tryz.func25 rfl (by kernel_rfl) (fun ν => by kernel_rfl) (fun ν => by kernel_rfl) fun ν hν => ?_
      exact Hs.ret (v := (.bool (wireS 18))) Tryz.func25 (by kernel_rfl) fun w' H => ⟨rfl, H.only⟩
    · refine Hs.enter Tryz.func25 [] [] [] [.c (.v (.int .i64 19))] (Mem.start0 w) (by kernel_rfl) (by kernel_rfl) ?_
      refine Hs.runK [46, 48] 1000 1 Tryz.func25 rfl (by kernel_rfl) (fun ν => by kernel_rfl) (fun ν => by kernel_rfl) fun ν hν => ?_
      exact Hs.ret (v := (.bool (wireS 19))) Tryz.func25 (by kernel_rfl) fun w' H => ⟨rfl, H.only⟩
    · refine Hs.enter Tryz.func25 [] [] [] [.c (.v (.int .i64 20))] (Mem.start0 w) (by kernel_rfl) (by kernel_rfl) ?_
      refine Hs.runK [46, 48] 1000 1 Tryz.func25 rfl (by kernel_rfl) (fun ν => by kernel_rfl) (fun ν => by kernel_rfl) fun ν hν => ?_
      exact Hs.ret (v := (.bool (wireS 20))) Tryz.func25 (by kernel_rfl) fun w' H => ⟨rfl, H.only⟩
    · refine Hs.enter Tryz.func25 [] [] [] [.c (.v (.int .i64 21))] (Mem.start0 w) (by kernel_rfl) (by kernel_rfl) ?_
      refine Hs.runK [46, 48] 1000 1 Tryz.func25 rfl (by kernel_rfl) (fun ν => by kernel_rfl) (fun ν => by kernel_rfl) fun ν hν => ?_
      exact Hs.ret (v := (.bool (wireS 21))) Tryz.func25 (by kernel_rfl) fun w' H => ⟨rfl, H.only⟩
    · refine Hs.enter Tryz.func25 [] [] [] [.c (.v (.int .i64 22))] (Mem.start0 w) (by kernel_rfl) (by kernel_rfl) ?_
      refine Hs.runK [46, 48] 1000 1 Tryz.func25 rfl (by kernel_rfl) (fun ν => by kernel_rfl) (fun ν => by kernel_rfl) fun ν hν => ?_
      exact Hs.ret (v := (.bool (wireS 22))) Tryz.func25 (by kernel_rfl) fun w' H => ⟨rfl, H.only⟩
    · refine Hs.enter Tryz.func25 [] [] [] [.c (.v (.int .i64 23))] (Mem.start0 w) (by kernel_rfl) (by kernel_rfl) ?_
      refine Hs.runK [46, 48] 1000 1 Tryz.func25 rfl (by kernel_rfl) (fun ν => by kernel_rfl) (fun ν => by kernel_rfl) fun ν hν => ?_
      exact Hs.ret (v := (.bool (wireS 23))) Tryz.func25 (by kernel_rfl) fun w' H => ⟨rfl, H.only⟩
    · refine Hs.enter Tryz.func25 [] [] [] [.c (.v (.int .i64 24))] (Mem.start0 w) (by kernel_rfl) (by kernel_rfl) ?_
      refine Hs.runK [46, 48] 1000 1 Tryz.func25 rfl (by kernel_rfl) (fun ν => by kernel_rfl) (fun ν => by kernel_rfl) fun ν hν => ?_
      exact Hs.ret (v := (.bool (wireS 24))) Tryz.func25 (by kernel_rfl) fun w' H => ⟨rfl, H.only⟩
    · refine Hs.enter Tryz.func25 [] [] [] [.c (.v (.int .i64 25))] (Mem.start0 w) (by kernel_rfl) (by kernel_rfl) ?_
      refine Hs.runK [46, 48] 1000 1 Tryz.func25 rfl (by kernel_rfl) (fun ν => by kernel_rfl) (fun ν => by kernel_rfl) fun ν hν => ?_
      exact Hs.ret (v := (.bool (wireS 25))) Tryz.func25 (by kernel_rfl) fun w' H => ⟨rfl, H.only⟩
    · refine Hs.enter Tryz.func25 [] [] [] [.c (.v (.int .i64 26))] (Mem.start0 w) (by kernel_rfl) (by kernel_rfl) ?_
      refine Hs.runK [46, 48] 1000 1 Tryz.func25 rfl (by kernel_rfl) (fun ν => by kernel_rfl) (fun ν => by kernel_rfl) fun ν hν => ?_
      exact Hs.ret (v := (.bool (wireS 26))) Tryz.func25 (by kernel_rfl) fun w' H => ⟨rfl, H.only⟩
    · refine Hs.enter Tryz.func25 [] [] [] [.c (.v (.int .i64 27))] (Mem.start0 w) (by kernel_rfl) (by kernel_rfl) ?_
      refine Hs.runK [46, 48] 1000 1 Tryz.func25 rfl (by kernel_rfl) (fun ν => by kernel_rfl) (fun ν => by kernel_rfl) fun ν hν => ?_
      exact Hs.ret (v := (.bool (wireS 27))) Tryz.func25 (by kernel_rfl) fun w' H => ⟨rfl, H.only⟩
    · refine Hs.enter Tryz.func25 [] [] [] [.c (.v (.int .i64 28))] (Mem.start0 w) (by kernel_rfl) (by kernel_rfl) ?_
      refine Hs.runK [46, 48] 1000 1 Tryz.func25 rfl (by kernel_rfl) (fun ν => by kernel_rfl) (fun ν => by kernel_rfl) fun ν hν => ?_
      exact Hs.ret (v := (.bool (wireS 28))) Tryz.func25 (by kernel_rfl) fun w' H => ⟨rfl, H.only⟩
  · have e : wireS n = false := by unfold wireS; rw [isS_out h]; rfl
    rw [e]
    have n5 : ¬ n = 5 := fun e => h (by omega)
    have n7 : ¬ n = 7 := fun e => h (by omega)
    refine Hs.enter Tryz.func25 [] [] [] [.c (.v (.int .i64 n))] (Mem.start0 w) (by kernel_rfl) (by kernel_rfl) ?_
    refine Hs.run0 300 (fun _ => by kernel_rfl) ?_
    refine Hs.cond (n == 5) (by kernel_rfl) (fun h1 => absurd (by simpa using h1) n5) (fun _ => ?_)
    refine Hs.run0 300 (fun _ => by kernel_rfl) ?_
    refine Hs.cond (n == 7) (by kernel_rfl) (fun h1 => absurd (by simpa using h1) n7) (fun _ => ?_)
    refine Hs.run0 300 (fun _ => by kernel_rfl) ?_
    refine Hs.callV (fun w' H => by have := is_any18 n w'; rw [isS_out h] at this; exact this) (by kernel_rfl) ?_
    refine Hs.rung0 [2] 300 (fun _ => by kernel_rfl) ?_
    exact Hs.ret (v := .bool false) Tryz.func25 (by kernel_rfl) fun w' H => ⟨rfl, H.only⟩
/-- The first place of a name. -/
def idxS (nm : ByteArray) : List ByteArray → Int → Int
  | [], _ => -1
  | s :: l, i => if eqL nm.data.toList s.data.toList then i else idxS nm l (i + 1)
def numI (nm : ByteArray) : Int := idxS nm sigL 0
def numS (nm : ByteArray) : Int := if numI nm > 0 then numI nm else 0
def numB (nm : ByteArray) : Bool := decide (numI nm > 0)
end Go.Proofs.YtdplnedpbkpgpaaGreatDoor

namespace Go.Proofs.YtdplnedpbkpgpaaGreatDoor
set_option linter.all false
set_option maxRecDepth 100000
open Go.RowKit

theorem eqT (a b : ByteArray) : eqL a.data.toList b.data.toList = (a.toList == b.toList) := by rw [eqL_eq, ByteArray.toList_eq, ByteArray.toList_eq]
theorem idx_no {nm s : ByteArray} {l : List ByteArray} {i : Int} (h : (nm.toList == s.toList) = false) : idxS nm (s :: l) i = idxS nm l (i + 1) := by
  unfold idxS
  rw [if_neg (by rw [eqT, h]; decide)]
  cases l <;> rfl
theorem idx_yes {nm s : ByteArray} {l : List ByteArray} {i : Int} (h : (nm.toList == s.toList) = true) : idxS nm (s :: l) i = i := by
  unfold idxS
  rw [if_pos (by rw [eqT, h])]
set_option maxHeartbeats 4000000 in
theorem number_any18 (nm : ByteArray) (w : World) : Calls Tryz.prog 24 #[.string nm] w fun e w' => e = .returned (.tuple #[.int .i64 (numS nm), .bool (numB nm)]) ∧ Only [] w w' := by
  have e0 : numI nm = idxS nm sigL 0 := rfl
  have fin : ∀ {k : Int}, numI nm = k → ∀ {e : Ending} {w1 : World}, e = .returned (.tuple #[.int .i64 (if k > 0 then k else 0), .bool (decide (k > 0))]) ∧ Only [] w w1 → e = .returned (.tuple #[.int .i64 (numS nm), .bool (numB nm)]) ∧ Only [] w w1 := fun {k} hk {e w1} h => by
    unfold numS numB
    rw [hk]
    exact h
  refine Hs.enter Tryz.func24 [] [] [] [.c (.v (.string nm))] (Mem.start0 w) (by kernel_rfl) (by kernel_rfl) ?_
  refine Hs.run0 300 (fun _ => by kernel_rfl) ?_
  refine Hs.cond (nm.toList == ByteArray.toList ⟨#[]⟩) (by kernel_rfl) (fun h => ?_) (fun h0 => ?_)
  · refine Hs.run0 300 (fun _ => by kernel_rfl) ?_
    exact Hs.ret (v := .tuple #[.int .i64 0, .bool false]) Tryz.func24 (by kernel_rfl) fun w' H => fin (k := 0) (e0.trans (idx_yes h)) ⟨rfl, H.only⟩
  refine Hs.runK [46] 60 2 Tryz.func24 rfl (by kernel_rfl) (fun ν => by kernel_rfl) (fun ν => by kernel_rfl) fun ν hν => ?_
  obtain ⟨b0, b1, rfl⟩ : ∃ b0 b1, ν = [b0, b1] := by
    match ν, hν with
    | [b0, b1], _ => exact ⟨b0, b1, rfl⟩
  refine Hs.inl Tryz.func47 [.c (.s 1 0 29 29), .c (.v (.string nm))] (by kernel_rfl) (by kernel_rfl) ?_
  refine Hs.run0 300 (fun _ => by kernel_rfl) ?_
  refine Hs.loop (by kernel_rfl) ?_
  refine Hs.run0 300 (fun _ => by kernel_rfl) ?_
  refine Hs.condT (by kernel_rfl) ?_
  refine Hs.run0 300 (fun _ => by kernel_rfl) ?_
  refine Hs.cond (nm.toList == ByteArray.toList ⟨#[]⟩) (by kernel_rfl) (fun h => ?_) (fun h1 => ?_)
  · refine Hs.run0 300 (fun _ => by kernel_rfl) ?_
    refine Hs.retI Tryz.func47 (by kernel_rfl) (by kernel_rfl) (by kernel_rfl) ?_
    refine Hs.run0 300 (fun _ => by kernel_rfl) ?_
    exact Hs.ret (v := .tuple #[.int .i64 0, .bool false]) Tryz.func24 (by kernel_rfl) fun w' H => fin (k := 0) (e0.trans (idx_yes h)) ⟨rfl, H.only⟩
  have e1 := e0.trans (idx_no h1)
  refine Hs.run0 300 (fun _ => by kernel_rfl) ?_
  refine Hs.loop (by kernel_rfl) ?_
  refine Hs.run0 300 (fun _ => by kernel_rfl) ?_
  refine Hs.condT (by kernel_rfl) ?_
  refine Hs.run0 300 (fun _ => by kernel_rfl) ?_
  refine Hs.cond (nm.toList == ByteArray.toList ⟨#[72, 85, 80]⟩) (by kernel_rfl) (fun h => ?_) (fun h2 => ?_)
  · refine Hs.run0 300 (fun _ => by kernel_rfl) ?_
    refine Hs.retI Tryz.func47 (by kernel_rfl) (by kernel_rfl) (by kernel_rfl) ?_
    refine Hs.run0 300 (fun _ => by kernel_rfl) ?_
    exact Hs.ret (v := .tuple #[.int .i64 1, .bool true]) Tryz.func24 (by kernel_rfl) fun w' H => fin (k := 1) (e1.trans (idx_yes h)) ⟨rfl, H.only⟩
  have e2 := e1.trans (idx_no h2)
  refine Hs.run0 300 (fun _ => by kernel_rfl) ?_
  refine Hs.loop (by kernel_rfl) ?_
  refine Hs.run0 300 (fun _ => by kernel_rfl) ?_
  refine Hs.condT (by kernel_rfl) ?_
  refine Hs.run0 300 (fun _ => by kernel_rfl) ?_
  refine Hs.cond (nm.toList == ByteArray.toList ⟨#[73, 78, 84]⟩) (by kernel_rfl) (fun h => ?_) (fun h3 => ?_)
  · refine Hs.run0 300 (fun _ => by kernel_rfl) ?_
    refine Hs.retI Tryz.func47 (by kernel_rfl) (by kernel_rfl) (by kernel_rfl) ?_
    refine Hs.run0 300 (fun _ => by kernel_rfl) ?_
    exact Hs.ret (v := .tuple #[.int .i64 2, .bool true]) Tryz.func24 (by kernel_rfl) fun w' H => fin (k := 2) (e2.trans (idx_yes h)) ⟨rfl, H.only⟩
  have e3 := e2.trans (idx_no h3)
  refine Hs.run0 300 (fun _ => by kernel_rfl) ?_
  refine Hs.loop (by kernel_rfl) ?_
  refine Hs.run0 300 (fun _ => by kernel_rfl) ?_
  refine Hs.condT (by kernel_rfl) ?_
  refine Hs.run0 300 (fun _ => by kernel_rfl) ?_
  refine Hs.cond (nm.toList == ByteArray.toList ⟨#[81, 85, 73, 84]⟩) (by kernel_rfl) (fun h => ?_) (fun h4 => ?_)
  · refine Hs.run0 300 (fun _ => by kernel_rfl) ?_
    refine Hs.retI Tryz.func47 (by kernel_rfl) (by kernel_rfl) (by kernel_rfl) ?_
    refine Hs.run0 300 (fun _ => by kernel_rfl) ?_
    exact Hs.ret (v := .tuple #[.int .i64 3, .bool true]) Tryz.func24 (by kernel_rfl) fun w' H => fin (k := 3) (e3.trans (idx_yes h)) ⟨rfl, H.only⟩
  have e4 := e3.trans (idx_no h4)
  refine Hs.run0 300 (fun _ => by kernel_rfl) ?_
  refine Hs.loop (by kernel_rfl) ?_
  refine Hs.run0 300 (fun _ => by kernel_rfl) ?_
  refine Hs.condT (by kernel_rfl) ?_
  refine Hs.run0 300 (fun _ => by kernel_rfl) ?_
  refine Hs.cond (nm.toList == ByteArray.toList ⟨#[73, 76, 76]⟩) (by kernel_rfl) (fun h => ?_) (fun h5 => ?_)
  · refine Hs.run0 300 (fun _ => by kernel_rfl) ?_
    refine Hs.retI Tryz.func47 (by kernel_rfl) (by kernel_rfl) (by kernel_rfl) ?_
    refine Hs.run0 300 (fun _ => by kernel_rfl) ?_
    exact Hs.ret (v := .tuple #[.int .i64 4, .bool true]) Tryz.func24 (by kernel_rfl) fun w' H => fin (k := 4) (e4.trans (idx_yes h)) ⟨rfl, H.only⟩
  have e5 := e4.trans (idx_no h5)
  refine Hs.run0 300 (fun _ => by kernel_rfl) ?_
  refine Hs.loop (by kernel_rfl) ?_
  refine Hs.run0 300 (fun _ => by kernel_rfl) ?_
  refine Hs.condT (by kernel_rfl) ?_
  refine Hs.run0 300 (fun _ => by kernel_rfl) ?_
  refine Hs.cond (nm.toList == ByteArray.toList ⟨#[84, 82, 65, 80]⟩) (by kernel_rfl) (fun h => ?_) (fun h6 => ?_)
  · refine Hs.run0 300 (fun _ => by kernel_rfl) ?_
    refine Hs.retI Tryz.func47 (by kernel_rfl) (by kernel_rfl) (by kernel_rfl) ?_
    refine Hs.run0 300 (fun _ => by kernel_rfl) ?_
    exact Hs.ret (v := .tuple #[.int .i64 5, .bool true]) Tryz.func24 (by kernel_rfl) fun w' H => fin (k := 5) (e5.trans (idx_yes h)) ⟨rfl, H.only⟩
  have e6 := e5.trans (idx_no h6)
  refine Hs.run0 300 (fun _ => by kernel_rfl) ?_
  refine Hs.loop (by kernel_rfl) ?_
  refine Hs.run0 300 (fun _ => by kernel_rfl) ?_
  refine Hs.condT (by kernel_rfl) ?_
  refine Hs.run0 300 (fun _ => by kernel_rfl) ?_
  refine Hs.cond (nm.toList == ByteArray.toList ⟨#[65, 66, 82, 84]⟩) (by kernel_rfl) (fun h => ?_) (fun h7 => ?_)
  · refine Hs.run0 300 (fun _ => by kernel_rfl) ?_
    refine Hs.retI Tryz.func47 (by kernel_rfl) (by kernel_rfl) (by kernel_rfl) ?_
    refine Hs.run0 300 (fun _ => by kernel_rfl) ?_
    exact Hs.ret (v := .tuple #[.int .i64 6, .bool true]) Tryz.func24 (by kernel_rfl) fun w' H => fin (k := 6) (e6.trans (idx_yes h)) ⟨rfl, H.only⟩
  have e7 := e6.trans (idx_no h7)
  refine Hs.run0 300 (fun _ => by kernel_rfl) ?_
  refine Hs.loop (by kernel_rfl) ?_
  refine Hs.run0 300 (fun _ => by kernel_rfl) ?_
  refine Hs.condT (by kernel_rfl) ?_
  refine Hs.run0 300 (fun _ => by kernel_rfl) ?_
  refine Hs.cond (nm.toList == ByteArray.toList ⟨#[66, 85, 83]⟩) (by kernel_rfl) (fun h => ?_) (fun h8 => ?_)
  · refine Hs.run0 300 (fun _ => by kernel_rfl) ?_
    refine Hs.retI Tryz.func47 (by kernel_rfl) (by kernel_rfl) (by kernel_rfl) ?_
    refine Hs.run0 300 (fun _ => by kernel_rfl) ?_
    exact Hs.ret (v := .tuple #[.int .i64 7, .bool true]) Tryz.func24 (by kernel_rfl) fun w' H => fin (k := 7) (e7.trans (idx_yes h)) ⟨rfl, H.only⟩
  have e8 := e7.trans (idx_no h8)
  refine Hs.run0 300 (fun _ => by kernel_rfl) ?_
  refine Hs.loop (by kernel_rfl) ?_
  refine Hs.run0 300 (fun _ => by kernel_rfl) ?_
  refine Hs.condT (by kernel_rfl) ?_
  refine Hs.run0 300 (fun _ => by kernel_rfl) ?_
  refine Hs.cond (nm.toList == ByteArray.toList ⟨#[70, 80, 69]⟩) (by kernel_rfl) (fun h => ?_) (fun h9 => ?_)
  · refine Hs.run0 300 (fun _ => by kernel_rfl) ?_
    refine Hs.retI Tryz.func47 (by kernel_rfl) (by kernel_rfl) (by kernel_rfl) ?_
    refine Hs.run0 300 (fun _ => by kernel_rfl) ?_
    exact Hs.ret (v := .tuple #[.int .i64 8, .bool true]) Tryz.func24 (by kernel_rfl) fun w' H => fin (k := 8) (e8.trans (idx_yes h)) ⟨rfl, H.only⟩
  have e9 := e8.trans (idx_no h9)
  refine Hs.run0 300 (fun _ => by kernel_rfl) ?_
  refine Hs.loop (by kernel_rfl) ?_
  refine Hs.run0 300 (fun _ => by kernel_rfl) ?_
  refine Hs.condT (by kernel_rfl) ?_
  refine Hs.run0 300 (fun _ => by kernel_rfl) ?_
  refine Hs.cond (nm.toList == ByteArray.toList ⟨#[75, 73, 76, 76]⟩) (by kernel_rfl) (fun h => ?_) (fun h10 => ?_)
  · refine Hs.run0 300 (fun _ => by kernel_rfl) ?_
    refine Hs.retI Tryz.func47 (by kernel_rfl) (by kernel_rfl) (by kernel_rfl) ?_
    refine Hs.run0 300 (fun _ => by kernel_rfl) ?_
    exact Hs.ret (v := .tuple #[.int .i64 9, .bool true]) Tryz.func24 (by kernel_rfl) fun w' H => fin (k := 9) (e9.trans (idx_yes h)) ⟨rfl, H.only⟩
  have e10 := e9.trans (idx_no h10)
  refine Hs.run0 300 (fun _ => by kernel_rfl) ?_
  refine Hs.loop (by kernel_rfl) ?_
  refine Hs.run0 300 (fun _ => by kernel_rfl) ?_
  refine Hs.condT (by kernel_rfl) ?_
  refine Hs.run0 300 (fun _ => by kernel_rfl) ?_
  refine Hs.cond (nm.toList == ByteArray.toList ⟨#[85, 83, 82, 49]⟩) (by kernel_rfl) (fun h => ?_) (fun h11 => ?_)
  · refine Hs.run0 300 (fun _ => by kernel_rfl) ?_
    refine Hs.retI Tryz.func47 (by kernel_rfl) (by kernel_rfl) (by kernel_rfl) ?_
    refine Hs.run0 300 (fun _ => by kernel_rfl) ?_
    exact Hs.ret (v := .tuple #[.int .i64 10, .bool true]) Tryz.func24 (by kernel_rfl) fun w' H => fin (k := 10) (e10.trans (idx_yes h)) ⟨rfl, H.only⟩
  have e11 := e10.trans (idx_no h11)
  refine Hs.run0 300 (fun _ => by kernel_rfl) ?_
  refine Hs.loop (by kernel_rfl) ?_
  refine Hs.run0 300 (fun _ => by kernel_rfl) ?_
  refine Hs.condT (by kernel_rfl) ?_
  refine Hs.run0 300 (fun _ => by kernel_rfl) ?_
  refine Hs.cond (nm.toList == ByteArray.toList ⟨#[83, 69, 71, 86]⟩) (by kernel_rfl) (fun h => ?_) (fun h12 => ?_)
  · refine Hs.run0 300 (fun _ => by kernel_rfl) ?_
    refine Hs.retI Tryz.func47 (by kernel_rfl) (by kernel_rfl) (by kernel_rfl) ?_
    refine Hs.run0 300 (fun _ => by kernel_rfl) ?_
    exact Hs.ret (v := .tuple #[.int .i64 11, .bool true]) Tryz.func24 (by kernel_rfl) fun w' H => fin (k := 11) (e11.trans (idx_yes h)) ⟨rfl, H.only⟩
  have e12 := e11.trans (idx_no h12)
  refine Hs.run0 300 (fun _ => by kernel_rfl) ?_
  refine Hs.loop (by kernel_rfl) ?_
  refine Hs.run0 300 (fun _ => by kernel_rfl) ?_
  refine Hs.condT (by kernel_rfl) ?_
  refine Hs.run0 300 (fun _ => by kernel_rfl) ?_
  refine Hs.cond (nm.toList == ByteArray.toList ⟨#[85, 83, 82, 50]⟩) (by kernel_rfl) (fun h => ?_) (fun h13 => ?_)
  · refine Hs.run0 300 (fun _ => by kernel_rfl) ?_
    refine Hs.retI Tryz.func47 (by kernel_rfl) (by kernel_rfl) (by kernel_rfl) ?_
    refine Hs.run0 300 (fun _ => by kernel_rfl) ?_
    exact Hs.ret (v := .tuple #[.int .i64 12, .bool true]) Tryz.func24 (by kernel_rfl) fun w' H => fin (k := 12) (e12.trans (idx_yes h)) ⟨rfl, H.only⟩
  have e13 := e12.trans (idx_no h13)
  refine Hs.run0 300 (fun _ => by kernel_rfl) ?_
  refine Hs.loop (by kernel_rfl) ?_
  refine Hs.run0 300 (fun _ => by kernel_rfl) ?_
  refine Hs.condT (by kernel_rfl) ?_
  refine Hs.run0 300 (fun _ => by kernel_rfl) ?_
  refine Hs.cond (nm.toList == ByteArray.toList ⟨#[80, 73, 80, 69]⟩) (by kernel_rfl) (fun h => ?_) (fun h14 => ?_)
  · refine Hs.run0 300 (fun _ => by kernel_rfl) ?_
    refine Hs.retI Tryz.func47 (by kernel_rfl) (by kernel_rfl) (by kernel_rfl) ?_
    refine Hs.run0 300 (fun _ => by kernel_rfl) ?_
    exact Hs.ret (v := .tuple #[.int .i64 13, .bool true]) Tryz.func24 (by kernel_rfl) fun w' H => fin (k := 13) (e13.trans (idx_yes h)) ⟨rfl, H.only⟩
  have e14 := e13.trans (idx_no h14)
  refine Hs.run0 300 (fun _ => by kernel_rfl) ?_
  refine Hs.loop (by kernel_rfl) ?_
  refine Hs.run0 300 (fun _ => by kernel_rfl) ?_
  refine Hs.condT (by kernel_rfl) ?_
  refine Hs.run0 300 (fun _ => by kernel_rfl) ?_
  refine Hs.cond (nm.toList == ByteArray.toList ⟨#[65, 76, 82, 77]⟩) (by kernel_rfl) (fun h => ?_) (fun h15 => ?_)
  · refine Hs.run0 300 (fun _ => by kernel_rfl) ?_
    refine Hs.retI Tryz.func47 (by kernel_rfl) (by kernel_rfl) (by kernel_rfl) ?_
    refine Hs.run0 300 (fun _ => by kernel_rfl) ?_
    exact Hs.ret (v := .tuple #[.int .i64 14, .bool true]) Tryz.func24 (by kernel_rfl) fun w' H => fin (k := 14) (e14.trans (idx_yes h)) ⟨rfl, H.only⟩
  have e15 := e14.trans (idx_no h15)
  refine Hs.run0 300 (fun _ => by kernel_rfl) ?_
  refine Hs.loop (by kernel_rfl) ?_
  refine Hs.run0 300 (fun _ => by kernel_rfl) ?_
  refine Hs.condT (by kernel_rfl) ?_
  refine Hs.run0 300 (fun _ => by kernel_rfl) ?_
  refine Hs.cond (nm.toList == ByteArray.toList ⟨#[84, 69, 82, 77]⟩) (by kernel_rfl) (fun h => ?_) (fun h16 => ?_)
  · refine Hs.run0 300 (fun _ => by kernel_rfl) ?_
    refine Hs.retI Tryz.func47 (by kernel_rfl) (by kernel_rfl) (by kernel_rfl) ?_
    refine Hs.run0 300 (fun _ => by kernel_rfl) ?_
    exact Hs.ret (v := .tuple #[.int .i64 15, .bool true]) Tryz.func24 (by kernel_rfl) fun w' H => fin (k := 15) (e15.trans (idx_yes h)) ⟨rfl, H.only⟩
  have e16 := e15.trans (idx_no h16)
  refine Hs.run0 300 (fun _ => by kernel_rfl) ?_
  refine Hs.loop (by kernel_rfl) ?_
  refine Hs.run0 300 (fun _ => by kernel_rfl) ?_
  refine Hs.condT (by kernel_rfl) ?_
  refine Hs.run0 300 (fun _ => by kernel_rfl) ?_
  refine Hs.cond (nm.toList == ByteArray.toList ⟨#[]⟩) (by kernel_rfl) (fun h => ?_) (fun h17 => ?_)
  · refine Hs.run0 300 (fun _ => by kernel_rfl) ?_
    refine Hs.retI Tryz.func47 (by kernel_rfl) (by kernel_rfl) (by kernel_rfl) ?_
    refine Hs.run0 300 (fun _ => by kernel_rfl) ?_
    exact Hs.ret (v := .tuple #[.int .i64 16, .bool true]) Tryz.func24 (by kernel_rfl) fun w' H => fin (k := 16) (e16.trans (idx_yes h)) ⟨rfl, H.only⟩
  have e17 := e16.trans (idx_no h17)
  refine Hs.run0 300 (fun _ => by kernel_rfl) ?_
  refine Hs.loop (by kernel_rfl) ?_
  refine Hs.run0 300 (fun _ => by kernel_rfl) ?_
  refine Hs.condT (by kernel_rfl) ?_
  refine Hs.run0 300 (fun _ => by kernel_rfl) ?_
  refine Hs.cond (nm.toList == ByteArray.toList ⟨#[67, 72, 76, 68]⟩) (by kernel_rfl) (fun h => ?_) (fun h18 => ?_)
  · refine Hs.run0 300 (fun _ => by kernel_rfl) ?_
    refine Hs.retI Tryz.func47 (by kernel_rfl) (by kernel_rfl) (by kernel_rfl) ?_
    refine Hs.run0 300 (fun _ => by kernel_rfl) ?_
    exact Hs.ret (v := .tuple #[.int .i64 17, .bool true]) Tryz.func24 (by kernel_rfl) fun w' H => fin (k := 17) (e17.trans (idx_yes h)) ⟨rfl, H.only⟩
  have e18 := e17.trans (idx_no h18)
  refine Hs.run0 300 (fun _ => by kernel_rfl) ?_
  refine Hs.loop (by kernel_rfl) ?_
  refine Hs.run0 300 (fun _ => by kernel_rfl) ?_
  refine Hs.condT (by kernel_rfl) ?_
  refine Hs.run0 300 (fun _ => by kernel_rfl) ?_
  refine Hs.cond (nm.toList == ByteArray.toList ⟨#[67, 79, 78, 84]⟩) (by kernel_rfl) (fun h => ?_) (fun h19 => ?_)
  · refine Hs.run0 300 (fun _ => by kernel_rfl) ?_
    refine Hs.retI Tryz.func47 (by kernel_rfl) (by kernel_rfl) (by kernel_rfl) ?_
    refine Hs.run0 300 (fun _ => by kernel_rfl) ?_
    exact Hs.ret (v := .tuple #[.int .i64 18, .bool true]) Tryz.func24 (by kernel_rfl) fun w' H => fin (k := 18) (e18.trans (idx_yes h)) ⟨rfl, H.only⟩
  have e19 := e18.trans (idx_no h19)
  refine Hs.run0 300 (fun _ => by kernel_rfl) ?_
  refine Hs.loop (by kernel_rfl) ?_
  refine Hs.run0 300 (fun _ => by kernel_rfl) ?_
  refine Hs.condT (by kernel_rfl) ?_
  refine Hs.run0 300 (fun _ => by kernel_rfl) ?_
  refine Hs.cond (nm.toList == ByteArray.toList ⟨#[83, 84, 79, 80]⟩) (by kernel_rfl) (fun h => ?_) (fun h20 => ?_)
  · refine Hs.run0 300 (fun _ => by kernel_rfl) ?_
    refine Hs.retI Tryz.func47 (by kernel_rfl) (by kernel_rfl) (by kernel_rfl) ?_
    refine Hs.run0 300 (fun _ => by kernel_rfl) ?_
    exact Hs.ret (v := .tuple #[.int .i64 19, .bool true]) Tryz.func24 (by kernel_rfl) fun w' H => fin (k := 19) (e19.trans (idx_yes h)) ⟨rfl, H.only⟩
  have e20 := e19.trans (idx_no h20)
  refine Hs.run0 300 (fun _ => by kernel_rfl) ?_
  refine Hs.loop (by kernel_rfl) ?_
  refine Hs.run0 300 (fun _ => by kernel_rfl) ?_
  refine Hs.condT (by kernel_rfl) ?_
  refine Hs.run0 300 (fun _ => by kernel_rfl) ?_
  refine Hs.cond (nm.toList == ByteArray.toList ⟨#[84, 83, 84, 80]⟩) (by kernel_rfl) (fun h => ?_) (fun h21 => ?_)
  · refine Hs.run0 300 (fun _ => by kernel_rfl) ?_
    refine Hs.retI Tryz.func47 (by kernel_rfl) (by kernel_rfl) (by kernel_rfl) ?_
    refine Hs.run0 300 (fun _ => by kernel_rfl) ?_
    exact Hs.ret (v := .tuple #[.int .i64 20, .bool true]) Tryz.func24 (by kernel_rfl) fun w' H => fin (k := 20) (e20.trans (idx_yes h)) ⟨rfl, H.only⟩
  have e21 := e20.trans (idx_no h21)
  refine Hs.run0 300 (fun _ => by kernel_rfl) ?_
  refine Hs.loop (by kernel_rfl) ?_
  refine Hs.run0 300 (fun _ => by kernel_rfl) ?_
  refine Hs.condT (by kernel_rfl) ?_
  refine Hs.run0 300 (fun _ => by kernel_rfl) ?_
  refine Hs.cond (nm.toList == ByteArray.toList ⟨#[84, 84, 73, 78]⟩) (by kernel_rfl) (fun h => ?_) (fun h22 => ?_)
  · refine Hs.run0 300 (fun _ => by kernel_rfl) ?_
    refine Hs.retI Tryz.func47 (by kernel_rfl) (by kernel_rfl) (by kernel_rfl) ?_
    refine Hs.run0 300 (fun _ => by kernel_rfl) ?_
    exact Hs.ret (v := .tuple #[.int .i64 21, .bool true]) Tryz.func24 (by kernel_rfl) fun w' H => fin (k := 21) (e21.trans (idx_yes h)) ⟨rfl, H.only⟩
  have e22 := e21.trans (idx_no h22)
  refine Hs.run0 300 (fun _ => by kernel_rfl) ?_
  refine Hs.loop (by kernel_rfl) ?_
  refine Hs.run0 300 (fun _ => by kernel_rfl) ?_
  refine Hs.condT (by kernel_rfl) ?_
  refine Hs.run0 300 (fun _ => by kernel_rfl) ?_
  refine Hs.cond (nm.toList == ByteArray.toList ⟨#[84, 84, 79, 85]⟩) (by kernel_rfl) (fun h => ?_) (fun h23 => ?_)
  · refine Hs.run0 300 (fun _ => by kernel_rfl) ?_
    refine Hs.retI Tryz.func47 (by kernel_rfl) (by kernel_rfl) (by kernel_rfl) ?_
    refine Hs.run0 300 (fun _ => by kernel_rfl) ?_
    exact Hs.ret (v := .tuple #[.int .i64 22, .bool true]) Tryz.func24 (by kernel_rfl) fun w' H => fin (k := 22) (e22.trans (idx_yes h)) ⟨rfl, H.only⟩
  have e23 := e22.trans (idx_no h23)
  refine Hs.run0 300 (fun _ => by kernel_rfl) ?_
  refine Hs.loop (by kernel_rfl) ?_
  refine Hs.run0 300 (fun _ => by kernel_rfl) ?_
  refine Hs.condT (by kernel_rfl) ?_
  refine Hs.run0 300 (fun _ => by kernel_rfl) ?_
  refine Hs.cond (nm.toList == ByteArray.toList ⟨#[]⟩) (by kernel_rfl) (fun h => ?_) (fun h24 => ?_)
  · refine Hs.run0 300 (fun _ => by kernel_rfl) ?_
    refine Hs.retI Tryz.func47 (by kernel_rfl) (by kernel_rfl) (by kernel_rfl) ?_
    refine Hs.run0 300 (fun _ => by kernel_rfl) ?_
    exact Hs.ret (v := .tuple #[.int .i64 23, .bool true]) Tryz.func24 (by kernel_rfl) fun w' H => fin (k := 23) (e23.trans (idx_yes h)) ⟨rfl, H.only⟩
  have e24 := e23.trans (idx_no h24)
  refine Hs.run0 300 (fun _ => by kernel_rfl) ?_
  refine Hs.loop (by kernel_rfl) ?_
  refine Hs.run0 300 (fun _ => by kernel_rfl) ?_
  refine Hs.condT (by kernel_rfl) ?_
  refine Hs.run0 300 (fun _ => by kernel_rfl) ?_
  refine Hs.cond (nm.toList == ByteArray.toList ⟨#[]⟩) (by kernel_rfl) (fun h => ?_) (fun h25 => ?_)
  · refine Hs.run0 300 (fun _ => by kernel_rfl) ?_
    refine Hs.retI Tryz.func47 (by kernel_rfl) (by kernel_rfl) (by kernel_rfl) ?_
    refine Hs.run0 300 (fun _ => by kernel_rfl) ?_
    exact Hs.ret (v := .tuple #[.int .i64 24, .bool true]) Tryz.func24 (by kernel_rfl) fun w' H => fin (k := 24) (e24.trans (idx_yes h)) ⟨rfl, H.only⟩
  have e25 := e24.trans (idx_no h25)
  refine Hs.run0 300 (fun _ => by kernel_rfl) ?_
  refine Hs.loop (by kernel_rfl) ?_
  refine Hs.run0 300 (fun _ => by kernel_rfl) ?_
  refine Hs.condT (by kernel_rfl) ?_
  refine Hs.run0 300 (fun _ => by kernel_rfl) ?_
  refine Hs.cond (nm.toList == ByteArray.toList ⟨#[]⟩) (by kernel_rfl) (fun h => ?_) (fun h26 => ?_)
  · refine Hs.run0 300 (fun _ => by kernel_rfl) ?_
    refine Hs.retI Tryz.func47 (by kernel_rfl) (by kernel_rfl) (by kernel_rfl) ?_
    refine Hs.run0 300 (fun _ => by kernel_rfl) ?_
    exact Hs.ret (v := .tuple #[.int .i64 25, .bool true]) Tryz.func24 (by kernel_rfl) fun w' H => fin (k := 25) (e25.trans (idx_yes h)) ⟨rfl, H.only⟩
  have e26 := e25.trans (idx_no h26)
  refine Hs.run0 300 (fun _ => by kernel_rfl) ?_
  refine Hs.loop (by kernel_rfl) ?_
  refine Hs.run0 300 (fun _ => by kernel_rfl) ?_
  refine Hs.condT (by kernel_rfl) ?_
  refine Hs.run0 300 (fun _ => by kernel_rfl) ?_
  refine Hs.cond (nm.toList == ByteArray.toList ⟨#[]⟩) (by kernel_rfl) (fun h => ?_) (fun h27 => ?_)
  · refine Hs.run0 300 (fun _ => by kernel_rfl) ?_
    refine Hs.retI Tryz.func47 (by kernel_rfl) (by kernel_rfl) (by kernel_rfl) ?_
    refine Hs.run0 300 (fun _ => by kernel_rfl) ?_
    exact Hs.ret (v := .tuple #[.int .i64 26, .bool true]) Tryz.func24 (by kernel_rfl) fun w' H => fin (k := 26) (e26.trans (idx_yes h)) ⟨rfl, H.only⟩
  have e27 := e26.trans (idx_no h27)
  refine Hs.run0 300 (fun _ => by kernel_rfl) ?_
  refine Hs.loop (by kernel_rfl) ?_
  refine Hs.run0 300 (fun _ => by kernel_rfl) ?_
  refine Hs.condT (by kernel_rfl) ?_
  refine Hs.run0 300 (fun _ => by kernel_rfl) ?_
  refine Hs.cond (nm.toList == ByteArray.toList ⟨#[]⟩) (by kernel_rfl) (fun h => ?_) (fun h28 => ?_)
  · refine Hs.run0 300 (fun _ => by kernel_rfl) ?_
    refine Hs.retI Tryz.func47 (by kernel_rfl) (by kernel_rfl) (by kernel_rfl) ?_
    refine Hs.run0 300 (fun _ => by kernel_rfl) ?_
    exact Hs.ret (v := .tuple #[.int .i64 27, .bool true]) Tryz.func24 (by kernel_rfl) fun w' H => fin (k := 27) (e27.trans (idx_yes h)) ⟨rfl, H.only⟩
  have e28 := e27.trans (idx_no h28)
  refine Hs.run0 300 (fun _ => by kernel_rfl) ?_
  refine Hs.loop (by kernel_rfl) ?_
  refine Hs.run0 300 (fun _ => by kernel_rfl) ?_
  refine Hs.condT (by kernel_rfl) ?_
  refine Hs.run0 300 (fun _ => by kernel_rfl) ?_
  refine Hs.cond (nm.toList == ByteArray.toList ⟨#[87, 73, 78, 67, 72]⟩) (by kernel_rfl) (fun h => ?_) (fun h29 => ?_)
  · refine Hs.run0 300 (fun _ => by kernel_rfl) ?_
    refine Hs.retI Tryz.func47 (by kernel_rfl) (by kernel_rfl) (by kernel_rfl) ?_
    refine Hs.run0 300 (fun _ => by kernel_rfl) ?_
    exact Hs.ret (v := .tuple #[.int .i64 28, .bool true]) Tryz.func24 (by kernel_rfl) fun w' H => fin (k := 28) (e28.trans (idx_yes h)) ⟨rfl, H.only⟩
  have e29 := e28.trans (idx_no h29)
  refine Hs.run0 300 (fun _ => by kernel_rfl) ?_
  refine Hs.loop (by kernel_rfl) ?_
  refine Hs.run0 300 (fun _ => by kernel_rfl) ?_
  refine Hs.condF (by kernel_rfl) ?_
  refine Hs.run0 300 (fun _ => by kernel_rfl) ?_
  refine Hs.retI Tryz.func47 (by kernel_rfl) (by kernel_rfl) (by kernel_rfl) ?_
  refine Hs.run0 300 (fun _ => by kernel_rfl) ?_
  exact Hs.ret (v := .tuple #[.int .i64 0, .bool false]) Tryz.func24 (by kernel_rfl) fun w' H => fin (k := -1) e29 ⟨rfl, H.only⟩
end Go.Proofs.YtdplnedpbkpgpaaGreatDoor
