/- Layer 18, the document's: the row of a number, its name; for all numbers; no condition · Layer 8: settings: whether a flag is on, what a character is, a flag set; for all settings; no condition · The machine: two structs compared (flat ones and nested ones; bools, numbers, strings); over any program; no condition · Layer 8, the document's: which numbers are flags'; no condition · The machine: calls that turn two blocks of ours; a function that is given several blocks; over any program; no condition · Layer 19: a text cut at its blanks; the table of kinds; which kind a word is; no condition but lengths · Layer 19: the table of kinds; which kind a word is; no condition. -/
import Derived.Test.YtmmcamkmglpgiaaGreatDoorEngAN
import Derived.Test.YtmmcamkmglpgiaaGreatDoorEngI
import Derived.Test.YtmmcamkmglpgiaaGreatDoorPxA
import Derived.Test.YtmmcamkmglpgiaaGreatDoorEngQ
import Derived.ChangeKeysEq
import Derived.Test.YtmmcamkmglpgiaaGreatDoorEngG
import Derived.Test.YtmmcamkmglpgiaaGreatDoorEngAC
import Derived.Lib.SplitLaws
namespace Go.Proofs.YtmmcamkmglpgiaaGreatDoor
set_option linter.all false
set_option maxRecDepth 100000
open Go.RowKit
def doesS (n : Int) : Int := ([0, 1, 1, 2, 2, 2, 2, 2, 2, 1, 1, 2, 1, 1, 1, 1, 0, 3, 5, 4, 4, 4, 4, 0, 0, 0, 0, 0, 3] : List Int).getD n.toNat 0
/-- A row of the document's table. -/
def rowS (n : Int) : Value := if isS n then .agg #[.int .i64 n, .string (nameS n), .int .i64 (doesS n), .bool (wireS n)] else .agg #[.int .i64 0, .string ⟨#[]⟩, .int .i64 0, .bool false]
def rowL (n : Int) : Value := .agg #[.int .i64 (if isS n then n else 0), .string (if isS n then nameS n else ⟨#[]⟩), .int .i64 (if isS n then doesS n else 0), .bool (wireS n)]
theorem rowS_eq (n : Int) : rowS n = rowL n := by
  unfold rowS rowL
  by_cases h : isS n = true
  · rw [if_pos h, if_pos h, if_pos h, if_pos h]
  · rw [if_neg h, if_neg h, if_neg h, if_neg h]
    unfold wireS
    rw [show isS n = false by simpa using h]
    rfl
theorem sIs {n : Int} (h : n ≠ 1 ∧ n ≠ 2 ∧ n ≠ 3 ∧ n ≠ 4 ∧ n ≠ 5 ∧ n ≠ 6 ∧ n ≠ 7 ∧ n ≠ 8 ∧ n ≠ 9 ∧ n ≠ 10 ∧ n ≠ 11 ∧ n ≠ 12 ∧ n ≠ 13 ∧ n ≠ 14 ∧ n ≠ 15 ∧ n ≠ 17 ∧ n ≠ 18 ∧ n ≠ 19 ∧ n ≠ 20 ∧ n ≠ 21 ∧ n ≠ 22 ∧ n ≠ 28) : isS n = false := by
  unfold isS
  simp only [Bool.or_eq_false_iff, Bool.and_eq_false_iff, decide_eq_false_iff_not]
  omega
def rowSC (n : Int) : List SC := [.v (.int .i64 n), .v (.string (nameS n)), .v (.int .i64 (doesS n)), .v (.bool (wireS n))]
def rowsSC : List SC := [1, 2, 3, 4, 5, 6, 7, 8, 9, 10, 11, 12, 13, 14, 15, 17, 18, 19, 20, 21, 22, 28].flatMap rowSC
theorem ofJ22 (n : Int) (w : World) (h1 : n ≠ 1) (h2 : n ≠ 2) (h3 : n ≠ 3) (h4 : n ≠ 4) (h5 : n ≠ 5) (h6 : n ≠ 6) (h7 : n ≠ 7) (h8 : n ≠ 8) (h9 : n ≠ 9) (h10 : n ≠ 10) (h11 : n ≠ 11) (h12 : n ≠ 12) (h13 : n ≠ 13) (h14 : n ≠ 14) (h15 : n ≠ 15) (h17 : n ≠ 17) (h18 : n ≠ 18) (h19 : n ≠ 19) (h20 : n ≠ 20) (h21 : n ≠ 21) (h22 : n ≠ 22) (h28 : n ≠ 28) (b0 b1 : Nat) (u : Nat → Value) : Hs Tryz.prog 119 (fun e w' => e = .returned (.tuple #[rowS n, .bool (isS n)]) ∧ Only [] w w') (Tryz.f119).ntmps w [] [b0, b1] ⟨.no, loopAt Tryz.f119 0, pins [(0, .c (.v (.int .i64 n))), (2, .c (.p 0 0)), (6, .c (.s 1 0 22 22)), (7, .c (.v (.int .i64 22))), (8, .c (.v (.int .i64 22)))] (.vals u), [.b true 158 [.v (.int .i64 0), .v (.string ⟨#[]⟩), .v (.int .i64 0), .v (.bool false)], .b true 158 rowsSC]⟩ := by
  have h := sIs (n := n) ⟨h1, h2, h3, h4, h5, h6, h7, h8, h9, h10, h11, h12, h13, h14, h15, h17, h18, h19, h20, h21, h22, h28⟩
  refine Hs.run0 300 (fun _ => by kernel_rfl) ?_
  refine Hs.condF (by kernel_rfl) ?_
  refine Hs.run0 300 (fun _ => by kernel_rfl) ?_
  exact Hs.ret (v := .tuple #[.agg #[.int .i64 0, .string ⟨#[]⟩, .int .i64 0, .bool false], .bool false]) Tryz.func119 (by kernel_rfl) fun w' H => ⟨by unfold rowS; rw [h]; rfl, H.only⟩
theorem ofJ21 (n : Int) (w : World) (h1 : n ≠ 1) (h2 : n ≠ 2) (h3 : n ≠ 3) (h4 : n ≠ 4) (h5 : n ≠ 5) (h6 : n ≠ 6) (h7 : n ≠ 7) (h8 : n ≠ 8) (h9 : n ≠ 9) (h10 : n ≠ 10) (h11 : n ≠ 11) (h12 : n ≠ 12) (h13 : n ≠ 13) (h14 : n ≠ 14) (h15 : n ≠ 15) (h17 : n ≠ 17) (h18 : n ≠ 18) (h19 : n ≠ 19) (h20 : n ≠ 20) (h21 : n ≠ 21) (h22 : n ≠ 22) (b0 b1 : Nat) (u : Nat → Value) : Hs Tryz.prog 119 (fun e w' => e = .returned (.tuple #[rowS n, .bool (isS n)]) ∧ Only [] w w') (Tryz.f119).ntmps w [] [b0, b1] ⟨.no, loopAt Tryz.f119 0, pins [(0, .c (.v (.int .i64 n))), (2, .c (.p 0 0)), (6, .c (.s 1 0 22 22)), (7, .c (.v (.int .i64 22))), (8, .c (.v (.int .i64 21)))] (.vals u), [.b true 158 [.v (.int .i64 0), .v (.string ⟨#[]⟩), .v (.int .i64 0), .v (.bool false)], .b true 158 rowsSC]⟩ := by
  refine Hs.run0 300 (fun _ => by kernel_rfl) ?_
  refine Hs.condT (by kernel_rfl) ?_
  refine Hs.run1 300 (fun _ => by kernel_rfl) fun b2 => ?_
  refine Hs.cond ((28 : Int) == n) (by kernel_rfl) (fun h => ?_) (fun h => ?_)
  · obtain rfl : n = 28 := (by simpa using h : (28 : Int) = n).symm
    refine Hs.run0 300 (fun _ => by kernel_rfl) ?_
    exact Hs.ret (v := .tuple #[rowL 28, .bool true]) Tryz.func119 (by kernel_rfl) fun w' H => ⟨by rw [rowS_eq]; rfl, H.only⟩
  have h28 : n ≠ 28 := fun e => by rw [e] at h; simp at h
  refine Hs.run0 300 (fun _ => by kernel_rfl) ?_
  refine Hs.loop (by kernel_rfl) ?_
  exact Hs.goto (loopAt Tryz.f119 0) [0, 1] [.b true 158 [.v (.int .i64 0), .v (.string ⟨#[]⟩), .v (.int .i64 0), .v (.bool false)], .b true 158 rowsSC] [(0, .c (.v (.int .i64 n))), (2, .c (.p 0 0)), (6, .c (.s 1 0 22 22)), (7, .c (.v (.int .i64 22))), (8, .c (.v (.int .i64 22)))] (by kernel_rfl) (by decide) (by kernel_rfl) (by kernel_rfl) (fun _ => (by kernel_rfl)) (fun u => ofJ22 n w h1 h2 h3 h4 h5 h6 h7 h8 h9 h10 h11 h12 h13 h14 h15 h17 h18 h19 h20 h21 h22 h28 b0 b1 u)
theorem ofJ20 (n : Int) (w : World) (h1 : n ≠ 1) (h2 : n ≠ 2) (h3 : n ≠ 3) (h4 : n ≠ 4) (h5 : n ≠ 5) (h6 : n ≠ 6) (h7 : n ≠ 7) (h8 : n ≠ 8) (h9 : n ≠ 9) (h10 : n ≠ 10) (h11 : n ≠ 11) (h12 : n ≠ 12) (h13 : n ≠ 13) (h14 : n ≠ 14) (h15 : n ≠ 15) (h17 : n ≠ 17) (h18 : n ≠ 18) (h19 : n ≠ 19) (h20 : n ≠ 20) (h21 : n ≠ 21) (b0 b1 : Nat) (u : Nat → Value) : Hs Tryz.prog 119 (fun e w' => e = .returned (.tuple #[rowS n, .bool (isS n)]) ∧ Only [] w w') (Tryz.f119).ntmps w [] [b0, b1] ⟨.no, loopAt Tryz.f119 0, pins [(0, .c (.v (.int .i64 n))), (2, .c (.p 0 0)), (6, .c (.s 1 0 22 22)), (7, .c (.v (.int .i64 22))), (8, .c (.v (.int .i64 20)))] (.vals u), [.b true 158 [.v (.int .i64 0), .v (.string ⟨#[]⟩), .v (.int .i64 0), .v (.bool false)], .b true 158 rowsSC]⟩ := by
  refine Hs.run0 300 (fun _ => by kernel_rfl) ?_
  refine Hs.condT (by kernel_rfl) ?_
  refine Hs.run1 300 (fun _ => by kernel_rfl) fun b2 => ?_
  refine Hs.cond ((22 : Int) == n) (by kernel_rfl) (fun h => ?_) (fun h => ?_)
  · obtain rfl : n = 22 := (by simpa using h : (22 : Int) = n).symm
    refine Hs.run0 300 (fun _ => by kernel_rfl) ?_
    exact Hs.ret (v := .tuple #[rowL 22, .bool true]) Tryz.func119 (by kernel_rfl) fun w' H => ⟨by rw [rowS_eq]; rfl, H.only⟩
  have h22 : n ≠ 22 := fun e => by rw [e] at h; simp at h
  refine Hs.run0 300 (fun _ => by kernel_rfl) ?_
  refine Hs.loop (by kernel_rfl) ?_
  exact Hs.goto (loopAt Tryz.f119 0) [0, 1] [.b true 158 [.v (.int .i64 0), .v (.string ⟨#[]⟩), .v (.int .i64 0), .v (.bool false)], .b true 158 rowsSC] [(0, .c (.v (.int .i64 n))), (2, .c (.p 0 0)), (6, .c (.s 1 0 22 22)), (7, .c (.v (.int .i64 22))), (8, .c (.v (.int .i64 21)))] (by kernel_rfl) (by decide) (by kernel_rfl) (by kernel_rfl) (fun _ => (by kernel_rfl)) (fun u => ofJ21 n w h1 h2 h3 h4 h5 h6 h7 h8 h9 h10 h11 h12 h13 h14 h15 h17 h18 h19 h20 h21 h22 b0 b1 u)
theorem ofJ19 (n : Int) (w : World) (h1 : n ≠ 1) (h2 : n ≠ 2) (h3 : n ≠ 3) (h4 : n ≠ 4) (h5 : n ≠ 5) (h6 : n ≠ 6) (h7 : n ≠ 7) (h8 : n ≠ 8) (h9 : n ≠ 9) (h10 : n ≠ 10) (h11 : n ≠ 11) (h12 : n ≠ 12) (h13 : n ≠ 13) (h14 : n ≠ 14) (h15 : n ≠ 15) (h17 : n ≠ 17) (h18 : n ≠ 18) (h19 : n ≠ 19) (h20 : n ≠ 20) (b0 b1 : Nat) (u : Nat → Value) : Hs Tryz.prog 119 (fun e w' => e = .returned (.tuple #[rowS n, .bool (isS n)]) ∧ Only [] w w') (Tryz.f119).ntmps w [] [b0, b1] ⟨.no, loopAt Tryz.f119 0, pins [(0, .c (.v (.int .i64 n))), (2, .c (.p 0 0)), (6, .c (.s 1 0 22 22)), (7, .c (.v (.int .i64 22))), (8, .c (.v (.int .i64 19)))] (.vals u), [.b true 158 [.v (.int .i64 0), .v (.string ⟨#[]⟩), .v (.int .i64 0), .v (.bool false)], .b true 158 rowsSC]⟩ := by
  refine Hs.run0 300 (fun _ => by kernel_rfl) ?_
  refine Hs.condT (by kernel_rfl) ?_
  refine Hs.run1 300 (fun _ => by kernel_rfl) fun b2 => ?_
  refine Hs.cond ((21 : Int) == n) (by kernel_rfl) (fun h => ?_) (fun h => ?_)
  · obtain rfl : n = 21 := (by simpa using h : (21 : Int) = n).symm
    refine Hs.run0 300 (fun _ => by kernel_rfl) ?_
    exact Hs.ret (v := .tuple #[rowL 21, .bool true]) Tryz.func119 (by kernel_rfl) fun w' H => ⟨by rw [rowS_eq]; rfl, H.only⟩
  have h21 : n ≠ 21 := fun e => by rw [e] at h; simp at h
  refine Hs.run0 300 (fun _ => by kernel_rfl) ?_
  refine Hs.loop (by kernel_rfl) ?_
  exact Hs.goto (loopAt Tryz.f119 0) [0, 1] [.b true 158 [.v (.int .i64 0), .v (.string ⟨#[]⟩), .v (.int .i64 0), .v (.bool false)], .b true 158 rowsSC] [(0, .c (.v (.int .i64 n))), (2, .c (.p 0 0)), (6, .c (.s 1 0 22 22)), (7, .c (.v (.int .i64 22))), (8, .c (.v (.int .i64 20)))] (by kernel_rfl) (by decide) (by kernel_rfl) (by kernel_rfl) (fun _ => (by kernel_rfl)) (fun u => ofJ20 n w h1 h2 h3 h4 h5 h6 h7 h8 h9 h10 h11 h12 h13 h14 h15 h17 h18 h19 h20 h21 b0 b1 u)
theorem ofJ18 (n : Int) (w : World) (h1 : n ≠ 1) (h2 : n ≠ 2) (h3 : n ≠ 3) (h4 : n ≠ 4) (h5 : n ≠ 5) (h6 : n ≠ 6) (h7 : n ≠ 7) (h8 : n ≠ 8) (h9 : n ≠ 9) (h10 : n ≠ 10) (h11 : n ≠ 11) (h12 : n ≠ 12) (h13 : n ≠ 13) (h14 : n ≠ 14) (h15 : n ≠ 15) (h17 : n ≠ 17) (h18 : n ≠ 18) (h19 : n ≠ 19) (b0 b1 : Nat) (u : Nat → Value) : Hs Tryz.prog 119 (fun e w' => e = .returned (.tuple #[rowS n, .bool (isS n)]) ∧ Only [] w w') (Tryz.f119).ntmps w [] [b0, b1] ⟨.no, loopAt Tryz.f119 0, pins [(0, .c (.v (.int .i64 n))), (2, .c (.p 0 0)), (6, .c (.s 1 0 22 22)), (7, .c (.v (.int .i64 22))), (8, .c (.v (.int .i64 18)))] (.vals u), [.b true 158 [.v (.int .i64 0), .v (.string ⟨#[]⟩), .v (.int .i64 0), .v (.bool false)], .b true 158 rowsSC]⟩ := by
  refine Hs.run0 300 (fun _ => by kernel_rfl) ?_
  refine Hs.condT (by kernel_rfl) ?_
  refine Hs.run1 300 (fun _ => by kernel_rfl) fun b2 => ?_
  refine Hs.cond ((20 : Int) == n) (by kernel_rfl) (fun h => ?_) (fun h => ?_)
  · obtain rfl : n = 20 := (by simpa using h : (20 : Int) = n).symm
    refine Hs.run0 300 (fun _ => by kernel_rfl) ?_
    exact Hs.ret (v := .tuple #[rowL 20, .bool true]) Tryz.func119 (by kernel_rfl) fun w' H => ⟨by rw [rowS_eq]; rfl, H.only⟩
  have h20 : n ≠ 20 := fun e => by rw [e] at h; simp at h
  refine Hs.run0 300 (fun _ => by kernel_rfl) ?_
  refine Hs.loop (by kernel_rfl) ?_
  exact Hs.goto (loopAt Tryz.f119 0) [0, 1] [.b true 158 [.v (.int .i64 0), .v (.string ⟨#[]⟩), .v (.int .i64 0), .v (.bool false)], .b true 158 rowsSC] [(0, .c (.v (.int .i64 n))), (2, .c (.p 0 0)), (6, .c (.s 1 0 22 22)), (7, .c (.v (.int .i64 22))), (8, .c (.v (.int .i64 19)))] (by kernel_rfl) (by decide) (by kernel_rfl) (by kernel_rfl) (fun _ => (by kernel_rfl)) (fun u => ofJ19 n w h1 h2 h3 h4 h5 h6 h7 h8 h9 h10 h11 h12 h13 h14 h15 h17 h18 h19 h20 b0 b1 u)
theorem ofJ17 (n : Int) (w : World) (h1 : n ≠ 1) (h2 : n ≠ 2) (h3 : n ≠ 3) (h4 : n ≠ 4) (h5 : n ≠ 5) (h6 : n ≠ 6) (h7 : n ≠ 7) (h8 : n ≠ 8) (h9 : n ≠ 9) (h10 : n ≠ 10) (h11 : n ≠ 11) (h12 : n ≠ 12) (h13 : n ≠ 13) (h14 : n ≠ 14) (h15 : n ≠ 15) (h17 : n ≠ 17) (h18 : n ≠ 18) (b0 b1 : Nat) (u : Nat → Value) : Hs Tryz.prog 119 (fun e w' => e = .returned (.tuple #[rowS n, .bool (isS n)]) ∧ Only [] w w') (Tryz.f119).ntmps w [] [b0, b1] ⟨.no, loopAt Tryz.f119 0, pins [(0, .c (.v (.int .i64 n))), (2, .c (.p 0 0)), (6, .c (.s 1 0 22 22)), (7, .c (.v (.int .i64 22))), (8, .c (.v (.int .i64 17)))] (.vals u), [.b true 158 [.v (.int .i64 0), .v (.string ⟨#[]⟩), .v (.int .i64 0), .v (.bool false)], .b true 158 rowsSC]⟩ := by
  refine Hs.run0 300 (fun _ => by kernel_rfl) ?_
  refine Hs.condT (by kernel_rfl) ?_
  refine Hs.run1 300 (fun _ => by kernel_rfl) fun b2 => ?_
  refine Hs.cond ((19 : Int) == n) (by kernel_rfl) (fun h => ?_) (fun h => ?_)
  · obtain rfl : n = 19 := (by simpa using h : (19 : Int) = n).symm
    refine Hs.run0 300 (fun _ => by kernel_rfl) ?_
    exact Hs.ret (v := .tuple #[rowL 19, .bool true]) Tryz.func119 (by kernel_rfl) fun w' H => ⟨by rw [rowS_eq]; rfl, H.only⟩
  have h19 : n ≠ 19 := fun e => by rw [e] at h; simp at h
  refine Hs.run0 300 (fun _ => by kernel_rfl) ?_
  refine Hs.loop (by kernel_rfl) ?_
  exact Hs.goto (loopAt Tryz.f119 0) [0, 1] [.b true 158 [.v (.int .i64 0), .v (.string ⟨#[]⟩), .v (.int .i64 0), .v (.bool false)], .b true 158 rowsSC] [(0, .c (.v (.int .i64 n))), (2, .c (.p 0 0)), (6, .c (.s 1 0 22 22)), (7, .c (.v (.int .i64 22))), (8, .c (.v (.int .i64 18)))] (by kernel_rfl) (by decide) (by kernel_rfl) (by kernel_rfl) (fun _ => (by kernel_rfl)) (fun u => ofJ18 n w h1 h2 h3 h4 h5 h6 h7 h8 h9 h10 h11 h12 h13 h14 h15 h17 h18 h19 b0 b1 u)
theorem ofJ16 (n : Int) (w : World) (h1 : n ≠ 1) (h2 : n ≠ 2) (h3 : n ≠ 3) (h4 : n ≠ 4) (h5 : n ≠ 5) (h6 : n ≠ 6) (h7 : n ≠ 7) (h8 : n ≠ 8) (h9 : n ≠ 9) (h10 : n ≠ 10) (h11 : n ≠ 11) (h12 : n ≠ 12) (h13 : n ≠ 13) (h14 : n ≠ 14) (h15 : n ≠ 15) (h17 : n ≠ 17) (b0 b1 : Nat) (u : Nat → Value) : Hs Tryz.prog 119 (fun e w' => e = .returned (.tuple #[rowS n, .bool (isS n)]) ∧ Only [] w w') (Tryz.f119).ntmps w [] [b0, b1] ⟨.no, loopAt Tryz.f119 0, pins [(0, .c (.v (.int .i64 n))), (2, .c (.p 0 0)), (6, .c (.s 1 0 22 22)), (7, .c (.v (.int .i64 22))), (8, .c (.v (.int .i64 16)))] (.vals u), [.b true 158 [.v (.int .i64 0), .v (.string ⟨#[]⟩), .v (.int .i64 0), .v (.bool false)], .b true 158 rowsSC]⟩ := by
  refine Hs.run0 300 (fun _ => by kernel_rfl) ?_
  refine Hs.condT (by kernel_rfl) ?_
  refine Hs.run1 300 (fun _ => by kernel_rfl) fun b2 => ?_
  refine Hs.cond ((18 : Int) == n) (by kernel_rfl) (fun h => ?_) (fun h => ?_)
  · obtain rfl : n = 18 := (by simpa using h : (18 : Int) = n).symm
    refine Hs.run0 300 (fun _ => by kernel_rfl) ?_
    exact Hs.ret (v := .tuple #[rowL 18, .bool true]) Tryz.func119 (by kernel_rfl) fun w' H => ⟨by rw [rowS_eq]; rfl, H.only⟩
  have h18 : n ≠ 18 := fun e => by rw [e] at h; simp at h
  refine Hs.run0 300 (fun _ => by kernel_rfl) ?_
  refine Hs.loop (by kernel_rfl) ?_
  exact Hs.goto (loopAt Tryz.f119 0) [0, 1] [.b true 158 [.v (.int .i64 0), .v (.string ⟨#[]⟩), .v (.int .i64 0), .v (.bool false)], .b true 158 rowsSC] [(0, .c (.v (.int .i64 n))), (2, .c (.p 0 0)), (6, .c (.s 1 0 22 22)), (7, .c (.v (.int .i64 22))), (8, .c (.v (.int .i64 17)))] (by kernel_rfl) (by decide) (by kernel_rfl) (by kernel_rfl) (fun _ => (by kernel_rfl)) (fun u => ofJ17 n w h1 h2 h3 h4 h5 h6 h7 h8 h9 h10 h11 h12 h13 h14 h15 h17 h18 b0 b1 u)
theorem ofJ15 (n : Int) (w : World) (h1 : n ≠ 1) (h2 : n ≠ 2) (h3 : n ≠ 3) (h4 : n ≠ 4) (h5 : n ≠ 5) (h6 : n ≠ 6) (h7 : n ≠ 7) (h8 : n ≠ 8) (h9 : n ≠ 9) (h10 : n ≠ 10) (h11 : n ≠ 11) (h12 : n ≠ 12) (h13 : n ≠ 13) (h14 : n ≠ 14) (h15 : n ≠ 15) (b0 b1 : Nat) (u : Nat → Value) : Hs Tryz.prog 119 (fun e w' => e = .returned (.tuple #[rowS n, .bool (isS n)]) ∧ Only [] w w') (Tryz.f119).ntmps w [] [b0, b1] ⟨.no, loopAt Tryz.f119 0, pins [(0, .c (.v (.int .i64 n))), (2, .c (.p 0 0)), (6, .c (.s 1 0 22 22)), (7, .c (.v (.int .i64 22))), (8, .c (.v (.int .i64 15)))] (.vals u), [.b true 158 [.v (.int .i64 0), .v (.string ⟨#[]⟩), .v (.int .i64 0), .v (.bool false)], .b true 158 rowsSC]⟩ := by
  refine Hs.run0 300 (fun _ => by kernel_rfl) ?_
  refine Hs.condT (by kernel_rfl) ?_
  refine Hs.run1 300 (fun _ => by kernel_rfl) fun b2 => ?_
  refine Hs.cond ((17 : Int) == n) (by kernel_rfl) (fun h => ?_) (fun h => ?_)
  · obtain rfl : n = 17 := (by simpa using h : (17 : Int) = n).symm
    refine Hs.run0 300 (fun _ => by kernel_rfl) ?_
    exact Hs.ret (v := .tuple #[rowL 17, .bool true]) Tryz.func119 (by kernel_rfl) fun w' H => ⟨by rw [rowS_eq]; rfl, H.only⟩
  have h17 : n ≠ 17 := fun e => by rw [e] at h; simp at h
  refine Hs.run0 300 (fun _ => by kernel_rfl) ?_
  refine Hs.loop (by kernel_rfl) ?_
  exact Hs.goto (loopAt Tryz.f119 0) [0, 1] [.b true 158 [.v (.int .i64 0), .v (.string ⟨#[]⟩), .v (.int .i64 0), .v (.bool false)], .b true 158 rowsSC] [(0, .c (.v (.int .i64 n))), (2, .c (.p 0 0)), (6, .c (.s 1 0 22 22)), (7, .c (.v (.int .i64 22))), (8, .c (.v (.int .i64 16)))] (by kernel_rfl) (by decide) (by kernel_rfl) (by kernel_rfl) (fun _ => (by kernel_rfl)) (fun u => ofJ16 n w h1 h2 h3 h4 h5 h6 h7 h8 h9 h10 h11 h12 h13 h14 h15 h17 b0 b1 u)
theorem ofJ14 (n : Int) (w : World) (h1 : n ≠ 1) (h2 : n ≠ 2) (h3 : n ≠ 3) (h4 : n ≠ 4) (h5 : n ≠ 5) (h6 : n ≠ 6) (h7 : n ≠ 7) (h8 : n ≠ 8) (h9 : n ≠ 9) (h10 : n ≠ 10) (h11 : n ≠ 11) (h12 : n ≠ 12) (h13 : n ≠ 13) (h14 : n ≠ 14) (b0 b1 : Nat) (u : Nat → Value) : Hs Tryz.prog 119 (fun e w' => e = .returned (.tuple #[rowS n, .bool (isS n)]) ∧ Only [] w w') (Tryz.f119).ntmps w [] [b0, b1] ⟨.no, loopAt Tryz.f119 0, pins [(0, .c (.v (.int .i64 n))), (2, .c (.p 0 0)), (6, .c (.s 1 0 22 22)), (7, .c (.v (.int .i64 22))), (8, .c (.v (.int .i64 14)))] (.vals u), [.b true 158 [.v (.int .i64 0), .v (.string ⟨#[]⟩), .v (.int .i64 0), .v (.bool false)], .b true 158 rowsSC]⟩ := by
  refine Hs.run0 300 (fun _ => by kernel_rfl) ?_
  refine Hs.condT (by kernel_rfl) ?_
  refine Hs.run1 300 (fun _ => by kernel_rfl) fun b2 => ?_
  refine Hs.cond ((15 : Int) == n) (by kernel_rfl) (fun h => ?_) (fun h => ?_)
  · obtain rfl : n = 15 := (by simpa using h : (15 : Int) = n).symm
    refine Hs.run0 300 (fun _ => by kernel_rfl) ?_
    exact Hs.ret (v := .tuple #[rowL 15, .bool true]) Tryz.func119 (by kernel_rfl) fun w' H => ⟨by rw [rowS_eq]; rfl, H.only⟩
  have h15 : n ≠ 15 := fun e => by rw [e] at h; simp at h
  refine Hs.run0 300 (fun _ => by kernel_rfl) ?_
  refine Hs.loop (by kernel_rfl) ?_
  exact Hs.goto (loopAt Tryz.f119 0) [0, 1] [.b true 158 [.v (.int .i64 0), .v (.string ⟨#[]⟩), .v (.int .i64 0), .v (.bool false)], .b true 158 rowsSC] [(0, .c (.v (.int .i64 n))), (2, .c (.p 0 0)), (6, .c (.s 1 0 22 22)), (7, .c (.v (.int .i64 22))), (8, .c (.v (.int .i64 15)))] (by kernel_rfl) (by decide) (by kernel_rfl) (by kernel_rfl) (fun _ => (by kernel_rfl)) (fun u => ofJ15 n w h1 h2 h3 h4 h5 h6 h7 h8 h9 h10 h11 h12 h13 h14 h15 b0 b1 u)
theorem ofJ13 (n : Int) (w : World) (h1 : n ≠ 1) (h2 : n ≠ 2) (h3 : n ≠ 3) (h4 : n ≠ 4) (h5 : n ≠ 5) (h6 : n ≠ 6) (h7 : n ≠ 7) (h8 : n ≠ 8) (h9 : n ≠ 9) (h10 : n ≠ 10) (h11 : n ≠ 11) (h12 : n ≠ 12) (h13 : n ≠ 13) (b0 b1 : Nat) (u : Nat → Value) : Hs Tryz.prog 119 (fun e w' => e = .returned (.tuple #[rowS n, .bool (isS n)]) ∧ Only [] w w') (Tryz.f119).ntmps w [] [b0, b1] ⟨.no, loopAt Tryz.f119 0, pins [(0, .c (.v (.int .i64 n))), (2, .c (.p 0 0)), (6, .c (.s 1 0 22 22)), (7, .c (.v (.int .i64 22))), (8, .c (.v (.int .i64 13)))] (.vals u), [.b true 158 [.v (.int .i64 0), .v (.string ⟨#[]⟩), .v (.int .i64 0), .v (.bool false)], .b true 158 rowsSC]⟩ := by
  refine Hs.run0 300 (fun _ => by kernel_rfl) ?_
  refine Hs.condT (by kernel_rfl) ?_
  refine Hs.run1 300 (fun _ => by kernel_rfl) fun b2 => ?_
  refine Hs.cond ((14 : Int) == n) (by kernel_rfl) (fun h => ?_) (fun h => ?_)
  · obtain rfl : n = 14 := (by simpa using h : (14 : Int) = n).symm
    refine Hs.run0 300 (fun _ => by kernel_rfl) ?_
    exact Hs.ret (v := .tuple #[rowL 14, .bool true]) Tryz.func119 (by kernel_rfl) fun w' H => ⟨by rw [rowS_eq]; rfl, H.only⟩
  have h14 : n ≠ 14 := fun e => by rw [e] at h; simp at h
  refine Hs.run0 300 (fun _ => by kernel_rfl) ?_
  refine Hs.loop (by kernel_rfl) ?_
  exact Hs.goto (loopAt Tryz.f119 0) [0, 1] [.b true 158 [.v (.int .i64 0), .v (.string ⟨#[]⟩), .v (.int .i64 0), .v (.bool false)], .b true 158 rowsSC] [(0, .c (.v (.int .i64 n))), (2, .c (.p 0 0)), (6, .c (.s 1 0 22 22)), (7, .c (.v (.int .i64 22))), (8, .c (.v (.int .i64 14)))] (by kernel_rfl) (by decide) (by kernel_rfl) (by kernel_rfl) (fun _ => (by kernel_rfl)) (fun u => ofJ14 n w h1 h2 h3 h4 h5 h6 h7 h8 h9 h10 h11 h12 h13 h14 b0 b1 u)
theorem ofJ12 (n : Int) (w : World) (h1 : n ≠ 1) (h2 : n ≠ 2) (h3 : n ≠ 3) (h4 : n ≠ 4) (h5 : n ≠ 5) (h6 : n ≠ 6) (h7 : n ≠ 7) (h8 : n ≠ 8) (h9 : n ≠ 9) (h10 : n ≠ 10) (h11 : n ≠ 11) (h12 : n ≠ 12) (b0 b1 : Nat) (u : Nat → Value) : Hs Tryz.prog 119 (fun e w' => e = .returned (.tuple #[rowS n, .bool (isS n)]) ∧ Only [] w w') (Tryz.f119).ntmps w [] [b0, b1] ⟨.no, loopAt Tryz.f119 0, pins [(0, .c (.v (.int .i64 n))), (2, .c (.p 0 0)), (6, .c (.s 1 0 22 22)), (7, .c (.v (.int .i64 22))), (8, .c (.v (.int .i64 12)))] (.vals u), [.b true 158 [.v (.int .i64 0), .v (.string ⟨#[]⟩), .v (.int .i64 0), .v (.bool false)], .b true 158 rowsSC]⟩ := by
  refine Hs.run0 300 (fun _ => by kernel_rfl) ?_
  refine Hs.condT (by kernel_rfl) ?_
  refine Hs.run1 300 (fun _ => by kernel_rfl) fun b2 => ?_
  refine Hs.cond ((13 : Int) == n) (by kernel_rfl) (fun h => ?_) (fun h => ?_)
  · obtain rfl : n = 13 := (by simpa using h : (13 : Int) = n).symm
    refine Hs.run0 300 (fun _ => by kernel_rfl) ?_
    exact Hs.ret (v := .tuple #[rowL 13, .bool true]) Tryz.func119 (by kernel_rfl) fun w' H => ⟨by rw [rowS_eq]; rfl, H.only⟩
  have h13 : n ≠ 13 := fun e => by rw [e] at h; simp at h
  refine Hs.run0 300 (fun _ => by kernel_rfl) ?_
  refine Hs.loop (by kernel_rfl) ?_
  exact Hs.goto (loopAt Tryz.f119 0) [0, 1] [.b true 158 [.v (.int .i64 0), .v (.string ⟨#[]⟩), .v (.int .i64 0), .v (.bool false)], .b true 158 rowsSC] [(0, .c (.v (.int .i64 n))), (2, .c (.p 0 0)), (6, .c (.s 1 0 22 22)), (7, .c (.v (.int .i64 22))), (8, .c (.v (.int .i64 13)))] (by kernel_rfl) (by decide) (by kernel_rfl) (by kernel_rfl) (fun _ => (by kernel_rfl)) (fun u => ofJ13 n w h1 h2 h3 h4 h5 h6 h7 h8 h9 h10 h11 h12 h13 b0 b1 u)
theorem ofJ11 (n : Int) (w : World) (h1 : n ≠ 1) (h2 : n ≠ 2) (h3 : n ≠ 3) (h4 : n ≠ 4) (h5 : n ≠ 5) (h6 : n ≠ 6) (h7 : n ≠ 7) (h8 : n ≠ 8) (h9 : n ≠ 9) (h10 : n ≠ 10) (h11 : n ≠ 11) (b0 b1 : Nat) (u : Nat → Value) : Hs Tryz.prog 119 (fun e w' => e = .returned (.tuple #[rowS n, .bool (isS n)]) ∧ Only [] w w') (Tryz.f119).ntmps w [] [b0, b1] ⟨.no, loopAt Tryz.f119 0, pins [(0, .c (.v (.int .i64 n))), (2, .c (.p 0 0)), (6, .c (.s 1 0 22 22)), (7, .c (.v (.int .i64 22))), (8, .c (.v (.int .i64 11)))] (.vals u), [.b true 158 [.v (.int .i64 0), .v (.string ⟨#[]⟩), .v (.int .i64 0), .v (.bool false)], .b true 158 rowsSC]⟩ := by
  refine Hs.run0 300 (fun _ => by kernel_rfl) ?_
  refine Hs.condT (by kernel_rfl) ?_
  refine Hs.run1 300 (fun _ => by kernel_rfl) fun b2 => ?_
  refine Hs.cond ((12 : Int) == n) (by kernel_rfl) (fun h => ?_) (fun h => ?_)
  · obtain rfl : n = 12 := (by simpa using h : (12 : Int) = n).symm
    refine Hs.run0 300 (fun _ => by kernel_rfl) ?_
    exact Hs.ret (v := .tuple #[rowL 12, .bool true]) Tryz.func119 (by kernel_rfl) fun w' H => ⟨by rw [rowS_eq]; rfl, H.only⟩
  have h12 : n ≠ 12 := fun e => by rw [e] at h; simp at h
  refine Hs.run0 300 (fun _ => by kernel_rfl) ?_
  refine Hs.loop (by kernel_rfl) ?_
  exact Hs.goto (loopAt Tryz.f119 0) [0, 1] [.b true 158 [.v (.int .i64 0), .v (.string ⟨#[]⟩), .v (.int .i64 0), .v (.bool false)], .b true 158 rowsSC] [(0, .c (.v (.int .i64 n))), (2, .c (.p 0 0)), (6, .c (.s 1 0 22 22)), (7, .c (.v (.int .i64 22))), (8, .c (.v (.int .i64 12)))] (by kernel_rfl) (by decide) (by kernel_rfl) (by kernel_rfl) (fun _ => (by kernel_rfl)) (fun u => ofJ12 n w h1 h2 h3 h4 h5 h6 h7 h8 h9 h10 h11 h12 b0 b1 u)
theorem ofJ10 (n : Int) (w : World) (h1 : n ≠ 1) (h2 : n ≠ 2) (h3 : n ≠ 3) (h4 : n ≠ 4) (h5 : n ≠ 5) (h6 : n ≠ 6) (h7 : n ≠ 7) (h8 : n ≠ 8) (h9 : n ≠ 9) (h10 : n ≠ 10) (b0 b1 : Nat) (u : Nat → Value) : Hs Tryz.prog 119 (fun e w' => e = .returned (.tuple #[rowS n, .bool (isS n)]) ∧ Only [] w w') (Tryz.f119).ntmps w [] [b0, b1] ⟨.no, loopAt Tryz.f119 0, pins [(0, .c (.v (.int .i64 n))), (2, .c (.p 0 0)), (6, .c (.s 1 0 22 22)), (7, .c (.v (.int .i64 22))), (8, .c (.v (.int .i64 10)))] (.vals u), [.b true 158 [.v (.int .i64 0), .v (.string ⟨#[]⟩), .v (.int .i64 0), .v (.bool false)], .b true 158 rowsSC]⟩ := by
  refine Hs.run0 300 (fun _ => by kernel_rfl) ?_
  refine Hs.condT (by kernel_rfl) ?_
  refine Hs.run1 300 (fun _ => by kernel_rfl) fun b2 => ?_
  refine Hs.cond ((11 : Int) == n) (by kernel_rfl) (fun h => ?_) (fun h => ?_)
  · obtain rfl : n = 11 := (by simpa using h : (11 : Int) = n).symm
    refine Hs.run0 300 (fun _ => by kernel_rfl) ?_
    exact Hs.ret (v := .tuple #[rowL 11, .bool true]) Tryz.func119 (by kernel_rfl) fun w' H => ⟨by rw [rowS_eq]; rfl, H.only⟩
  have h11 : n ≠ 11 := fun e => by rw [e] at h; simp at h
  refine Hs.run0 300 (fun _ => by kernel_rfl) ?_
  refine Hs.loop (by kernel_rfl) ?_
  exact Hs.goto (loopAt Tryz.f119 0) [0, 1] [.b true 158 [.v (.int .i64 0), .v (.string ⟨#[]⟩), .v (.int .i64 0), .v (.bool false)], .b true 158 rowsSC] [(0, .c (.v (.int .i64 n))), (2, .c (.p 0 0)), (6, .c (.s 1 0 22 22)), (7, .c (.v (.int .i64 22))), (8, .c (.v (.int .i64 11)))] (by kernel_rfl) (by decide) (by kernel_rfl) (by kernel_rfl) (fun _ => (by kernel_rfl)) (fun u => ofJ11 n w h1 h2 h3 h4 h5 h6 h7 h8 h9 h10 h11 b0 b1 u)
theorem ofJ9 (n : Int) (w : World) (h1 : n ≠ 1) (h2 : n ≠ 2) (h3 : n ≠ 3) (h4 : n ≠ 4) (h5 : n ≠ 5) (h6 : n ≠ 6) (h7 : n ≠ 7) (h8 : n ≠ 8) (h9 : n ≠ 9) (b0 b1 : Nat) (u : Nat → Value) : Hs Tryz.prog 119 (fun e w' => e = .returned (.tuple #[rowS n, .bool (isS n)]) ∧ Only [] w w') (Tryz.f119).ntmps w [] [b0, b1] ⟨.no, loopAt Tryz.f119 0, pins [(0, .c (.v (.int .i64 n))), (2, .c (.p 0 0)), (6, .c (.s 1 0 22 22)), (7, .c (.v (.int .i64 22))), (8, .c (.v (.int .i64 9)))] (.vals u), [.b true 158 [.v (.int .i64 0), .v (.string ⟨#[]⟩), .v (.int .i64 0), .v (.bool false)], .b true 158 rowsSC]⟩ := by
  refine Hs.run0 300 (fun _ => by kernel_rfl) ?_
  refine Hs.condT (by kernel_rfl) ?_
  refine Hs.run1 300 (fun _ => by kernel_rfl) fun b2 => ?_
  refine Hs.cond ((10 : Int) == n) (by kernel_rfl) (fun h => ?_) (fun h => ?_)
  · obtain rfl : n = 10 := (by simpa using h : (10 : Int) = n).symm
    refine Hs.run0 300 (fun _ => by kernel_rfl) ?_
    exact Hs.ret (v := .tuple #[rowL 10, .bool true]) Tryz.func119 (by kernel_rfl) fun w' H => ⟨by rw [rowS_eq]; rfl, H.only⟩
  have h10 : n ≠ 10 := fun e => by rw [e] at h; simp at h
  refine Hs.run0 300 (fun _ => by kernel_rfl) ?_
  refine Hs.loop (by kernel_rfl) ?_
  exact Hs.goto (loopAt Tryz.f119 0) [0, 1] [.b true 158 [.v (.int .i64 0), .v (.string ⟨#[]⟩), .v (.int .i64 0), .v (.bool false)], .b true 158 rowsSC] [(0, .c (.v (.int .i64 n))), (2, .c (.p 0 0)), (6, .c (.s 1 0 22 22)), (7, .c (.v (.int .i64 22))), (8, .c (.v (.int .i64 10)))] (by kernel_rfl) (by decide) (by kernel_rfl) (by kernel_rfl) (fun _ => (by kernel_rfl)) (fun u => ofJ10 n w h1 h2 h3 h4 h5 h6 h7 h8 h9 h10 b0 b1 u)
theorem ofJ8 (n : Int) (w : World) (h1 : n ≠ 1) (h2 : n ≠ 2) (h3 : n ≠ 3) (h4 : n ≠ 4) (h5 : n ≠ 5) (h6 : n ≠ 6) (h7 : n ≠ 7) (h8 : n ≠ 8) (b0 b1 : Nat) (u : Nat → Value) : Hs Tryz.prog 119 (fun e w' => e = .returned (.tuple #[rowS n, .bool (isS n)]) ∧ Only [] w w') (Tryz.f119).ntmps w [] [b0, b1] ⟨.no, loopAt Tryz.f119 0, pins [(0, .c (.v (.int .i64 n))), (2, .c (.p 0 0)), (6, .c (.s 1 0 22 22)), (7, .c (.v (.int .i64 22))), (8, .c (.v (.int .i64 8)))] (.vals u), [.b true 158 [.v (.int .i64 0), .v (.string ⟨#[]⟩), .v (.int .i64 0), .v (.bool false)], .b true 158 rowsSC]⟩ := by
  refine Hs.run0 300 (fun _ => by kernel_rfl) ?_
  refine Hs.condT (by kernel_rfl) ?_
  refine Hs.run1 300 (fun _ => by kernel_rfl) fun b2 => ?_
  refine Hs.cond ((9 : Int) == n) (by kernel_rfl) (fun h => ?_) (fun h => ?_)
  · obtain rfl : n = 9 := (by simpa using h : (9 : Int) = n).symm
    refine Hs.run0 300 (fun _ => by kernel_rfl) ?_
    exact Hs.ret (v := .tuple #[rowL 9, .bool true]) Tryz.func119 (by kernel_rfl) fun w' H => ⟨by rw [rowS_eq]; rfl, H.only⟩
  have h9 : n ≠ 9 := fun e => by rw [e] at h; simp at h
  refine Hs.run0 300 (fun _ => by kernel_rfl) ?_
  refine Hs.loop (by kernel_rfl) ?_
  exact Hs.goto (loopAt Tryz.f119 0) [0, 1] [.b true 158 [.v (.int .i64 0), .v (.string ⟨#[]⟩), .v (.int .i64 0), .v (.bool false)], .b true 158 rowsSC] [(0, .c (.v (.int .i64 n))), (2, .c (.p 0 0)), (6, .c (.s 1 0 22 22)), (7, .c (.v (.int .i64 22))), (8, .c (.v (.int .i64 9)))] (by kernel_rfl) (by decide) (by kernel_rfl) (by kernel_rfl) (fun _ => (by kernel_rfl)) (fun u => ofJ9 n w h1 h2 h3 h4 h5 h6 h7 h8 h9 b0 b1 u)
theorem ofJ7 (n : Int) (w : World) (h1 : n ≠ 1) (h2 : n ≠ 2) (h3 : n ≠ 3) (h4 : n ≠ 4) (h5 : n ≠ 5) (h6 : n ≠ 6) (h7 : n ≠ 7) (b0 b1 : Nat) (u : Nat → Value) : Hs Tryz.prog 119 (fun e w' => e = .returned (.tuple #[rowS n, .bool (isS n)]) ∧ Only [] w w') (Tryz.f119).ntmps w [] [b0, b1] ⟨.no, loopAt Tryz.f119 0, pins [(0, .c (.v (.int .i64 n))), (2, .c (.p 0 0)), (6, .c (.s 1 0 22 22)), (7, .c (.v (.int .i64 22))), (8, .c (.v (.int .i64 7)))] (.vals u), [.b true 158 [.v (.int .i64 0), .v (.string ⟨#[]⟩), .v (.int .i64 0), .v (.bool false)], .b true 158 rowsSC]⟩ := by
  refine Hs.run0 300 (fun _ => by kernel_rfl) ?_
  refine Hs.condT (by kernel_rfl) ?_
  refine Hs.run1 300 (fun _ => by kernel_rfl) fun b2 => ?_
  refine Hs.cond ((8 : Int) == n) (by kernel_rfl) (fun h => ?_) (fun h => ?_)
  · obtain rfl : n = 8 := (by simpa using h : (8 : Int) = n).symm
    refine Hs.run0 300 (fun _ => by kernel_rfl) ?_
    exact Hs.ret (v := .tuple #[rowL 8, .bool true]) Tryz.func119 (by kernel_rfl) fun w' H => ⟨by rw [rowS_eq]; rfl, H.only⟩
  have h8 : n ≠ 8 := fun e => by rw [e] at h; simp at h
  refine Hs.run0 300 (fun _ => by kernel_rfl) ?_
  refine Hs.loop (by kernel_rfl) ?_
  exact Hs.goto (loopAt Tryz.f119 0) [0, 1] [.b true 158 [.v (.int .i64 0), .v (.string ⟨#[]⟩), .v (.int .i64 0), .v (.bool false)], .b true 158 rowsSC] [(0, .c (.v (.int .i64 n))), (2, .c (.p 0 0)), (6, .c (.s 1 0 22 22)), (7, .c (.v (.int .i64 22))), (8, .c (.v (.int .i64 8)))] (by kernel_rfl) (by decide) (by kernel_rfl) (by kernel_rfl) (fun _ => (by kernel_rfl)) (fun u => ofJ8 n w h1 h2 h3 h4 h5 h6 h7 h8 b0 b1 u)
theorem ofJ6 (n : Int) (w : World) (h1 : n ≠ 1) (h2 : n ≠ 2) (h3 : n ≠ 3) (h4 : n ≠ 4) (h5 : n ≠ 5) (h6 : n ≠ 6) (b0 b1 : Nat) (u : Nat → Value) : Hs Tryz.prog 119 (fun e w' => e = .returned (.tuple #[rowS n, .bool (isS n)]) ∧ Only [] w w') (Tryz.f119).ntmps w [] [b0, b1] ⟨.no, loopAt Tryz.f119 0, pins [(0, .c (.v (.int .i64 n))), (2, .c (.p 0 0)), (6, .c (.s 1 0 22 22)), (7, .c (.v (.int .i64 22))), (8, .c (.v (.int .i64 6)))] (.vals u), [.b true 158 [.v (.int .i64 0), .v (.string ⟨#[]⟩), .v (.int .i64 0), .v (.bool false)], .b true 158 rowsSC]⟩ := by
  refine Hs.run0 300 (fun _ => by kernel_rfl) ?_
  refine Hs.condT (by kernel_rfl) ?_
  refine Hs.run1 300 (fun _ => by kernel_rfl) fun b2 => ?_
  refine Hs.cond ((7 : Int) == n) (by kernel_rfl) (fun h => ?_) (fun h => ?_)
  · obtain rfl : n = 7 := (by simpa using h : (7 : Int) = n).symm
    refine Hs.run0 300 (fun _ => by kernel_rfl) ?_
    exact Hs.ret (v := .tuple #[rowL 7, .bool true]) Tryz.func119 (by kernel_rfl) fun w' H => ⟨by rw [rowS_eq]; rfl, H.only⟩
  have h7 : n ≠ 7 := fun e => by rw [e] at h; simp at h
  refine Hs.run0 300 (fun _ => by kernel_rfl) ?_
  refine Hs.loop (by kernel_rfl) ?_
  exact Hs.goto (loopAt Tryz.f119 0) [0, 1] [.b true 158 [.v (.int .i64 0), .v (.string ⟨#[]⟩), .v (.int .i64 0), .v (.bool false)], .b true 158 rowsSC] [(0, .c (.v (.int .i64 n))), (2, .c (.p 0 0)), (6, .c (.s 1 0 22 22)), (7, .c (.v (.int .i64 22))), (8, .c (.v (.int .i64 7)))] (by kernel_rfl) (by decide) (by kernel_rfl) (by kernel_rfl) (fun _ => (by kernel_rfl)) (fun u => ofJ7 n w h1 h2 h3 h4 h5 h6 h7 b0 b1 u)
theorem ofJ5 (n : Int) (w : World) (h1 : n ≠ 1) (h2 : n ≠ 2) (h3 : n ≠ 3) (h4 : n ≠ 4) (h5 : n ≠ 5) (b0 b1 : Nat) (u : Nat → Value) : Hs Tryz.prog 119 (fun e w' => e = .returned (.tuple #[rowS n, .bool (isS n)]) ∧ Only [] w w') (Tryz.f119).ntmps w [] [b0, b1] ⟨.no, loopAt Tryz.f119 0, pins [(0, .c (.v (.int .i64 n))), (2, .c (.p 0 0)), (6, .c (.s 1 0 22 22)), (7, .c (.v (.int .i64 22))), (8, .c (.v (.int .i64 5)))] (.vals u), [.b true 158 [.v (.int .i64 0), .v (.string ⟨#[]⟩), .v (.int .i64 0), .v (.bool false)], .b true 158 rowsSC]⟩ := by
  refine Hs.run0 300 (fun _ => by kernel_rfl) ?_
  refine Hs.condT (by kernel_rfl) ?_
  refine Hs.run1 300 (fun _ => by kernel_rfl) fun b2 => ?_
  refine Hs.cond ((6 : Int) == n) (by kernel_rfl) (fun h => ?_) (fun h => ?_)
  · obtain rfl : n = 6 := (by simpa using h : (6 : Int) = n).symm
    refine Hs.run0 300 (fun _ => by kernel_rfl) ?_
    exact Hs.ret (v := .tuple #[rowL 6, .bool true]) Tryz.func119 (by kernel_rfl) fun w' H => ⟨by rw [rowS_eq]; rfl, H.only⟩
  have h6 : n ≠ 6 := fun e => by rw [e] at h; simp at h
  refine Hs.run0 300 (fun _ => by kernel_rfl) ?_
  refine Hs.loop (by kernel_rfl) ?_
  exact Hs.goto (loopAt Tryz.f119 0) [0, 1] [.b true 158 [.v (.int .i64 0), .v (.string ⟨#[]⟩), .v (.int .i64 0), .v (.bool false)], .b true 158 rowsSC] [(0, .c (.v (.int .i64 n))), (2, .c (.p 0 0)), (6, .c (.s 1 0 22 22)), (7, .c (.v (.int .i64 22))), (8, .c (.v (.int .i64 6)))] (by kernel_rfl) (by decide) (by kernel_rfl) (by kernel_rfl) (fun _ => (by kernel_rfl)) (fun u => ofJ6 n w h1 h2 h3 h4 h5 h6 b0 b1 u)
theorem ofJ4 (n : Int) (w : World) (h1 : n ≠ 1) (h2 : n ≠ 2) (h3 : n ≠ 3) (h4 : n ≠ 4) (b0 b1 : Nat) (u : Nat → Value) : Hs Tryz.prog 119 (fun e w' => e = .returned (.tuple #[rowS n, .bool (isS n)]) ∧ Only [] w w') (Tryz.f119).ntmps w [] [b0, b1] ⟨.no, loopAt Tryz.f119 0, pins [(0, .c (.v (.int .i64 n))), (2, .c (.p 0 0)), (6, .c (.s 1 0 22 22)), (7, .c (.v (.int .i64 22))), (8, .c (.v (.int .i64 4)))] (.vals u), [.b true 158 [.v (.int .i64 0), .v (.string ⟨#[]⟩), .v (.int .i64 0), .v (.bool false)], .b true 158 rowsSC]⟩ := by
  refine Hs.run0 300 (fun _ => by kernel_rfl) ?_
  refine Hs.condT (by kernel_rfl) ?_
  refine Hs.run1 300 (fun _ => by kernel_rfl) fun b2 => ?_
  refine Hs.cond ((5 : Int) == n) (by kernel_rfl) (fun h => ?_) (fun h => ?_)
  · obtain rfl : n = 5 := (by simpa using h : (5 : Int) = n).symm
    refine Hs.run0 300 (fun _ => by kernel_rfl) ?_
    exact Hs.ret (v := .tuple #[rowL 5, .bool true]) Tryz.func119 (by kernel_rfl) fun w' H => ⟨by rw [rowS_eq]; rfl, H.only⟩
  have h5 : n ≠ 5 := fun e => by rw [e] at h; simp at h
  refine Hs.run0 300 (fun _ => by kernel_rfl) ?_
  refine Hs.loop (by kernel_rfl) ?_
  exact Hs.goto (loopAt Tryz.f119 0) [0, 1] [.b true 158 [.v (.int .i64 0), .v (.string ⟨#[]⟩), .v (.int .i64 0), .v (.bool false)], .b true 158 rowsSC] [(0, .c (.v (.int .i64 n))), (2, .c (.p 0 0)), (6, .c (.s 1 0 22 22)), (7, .c (.v (.int .i64 22))), (8, .c (.v (.int .i64 5)))] (by kernel_rfl) (by decide) (by kernel_rfl) (by kernel_rfl) (fun _ => (by kernel_rfl)) (fun u => ofJ5 n w h1 h2 h3 h4 h5 b0 b1 u)
theorem ofJ3 (n : Int) (w : World) (h1 : n ≠ 1) (h2 : n ≠ 2) (h3 : n ≠ 3) (b0 b1 : Nat) (u : Nat → Value) : Hs Tryz.prog 119 (fun e w' => e = .returned (.tuple #[rowS n, .bool (isS n)]) ∧ Only [] w w') (Tryz.f119).ntmps w [] [b0, b1] ⟨.no, loopAt Tryz.f119 0, pins [(0, .c (.v (.int .i64 n))), (2, .c (.p 0 0)), (6, .c (.s 1 0 22 22)), (7, .c (.v (.int .i64 22))), (8, .c (.v (.int .i64 3)))] (.vals u), [.b true 158 [.v (.int .i64 0), .v (.string ⟨#[]⟩), .v (.int .i64 0), .v (.bool false)], .b true 158 rowsSC]⟩ := by
  refine Hs.run0 300 (fun _ => by kernel_rfl) ?_
  refine Hs.condT (by kernel_rfl) ?_
  refine Hs.run1 300 (fun _ => by kernel_rfl) fun b2 => ?_
  refine Hs.cond ((4 : Int) == n) (by kernel_rfl) (fun h => ?_) (fun h => ?_)
  · obtain rfl : n = 4 := (by simpa using h : (4 : Int) = n).symm
    refine Hs.run0 300 (fun _ => by kernel_rfl) ?_
    exact Hs.ret (v := .tuple #[rowL 4, .bool true]) Tryz.func119 (by kernel_rfl) fun w' H => ⟨by rw [rowS_eq]; rfl, H.only⟩
  have h4 : n ≠ 4 := fun e => by rw [e] at h; simp at h
  refine Hs.run0 300 (fun _ => by kernel_rfl) ?_
  refine Hs.loop (by kernel_rfl) ?_
  exact Hs.goto (loopAt Tryz.f119 0) [0, 1] [.b true 158 [.v (.int .i64 0), .v (.string ⟨#[]⟩), .v (.int .i64 0), .v (.bool false)], .b true 158 rowsSC] [(0, .c (.v (.int .i64 n))), (2, .c (.p 0 0)), (6, .c (.s 1 0 22 22)), (7, .c (.v (.int .i64 22))), (8, .c (.v (.int .i64 4)))] (by kernel_rfl) (by decide) (by kernel_rfl) (by kernel_rfl) (fun _ => (by kernel_rfl)) (fun u => ofJ4 n w h1 h2 h3 h4 b0 b1 u)
theorem ofJ2 (n : Int) (w : World) (h1 : n ≠ 1) (h2 : n ≠ 2) (b0 b1 : Nat) (u : Nat → Value) : Hs Tryz.prog 119 (fun e w' => e = .returned (.tuple #[rowS n, .bool (isS n)]) ∧ Only [] w w') (Tryz.f119).ntmps w [] [b0, b1] ⟨.no, loopAt Tryz.f119 0, pins [(0, .c (.v (.int .i64 n))), (2, .c (.p 0 0)), (6, .c (.s 1 0 22 22)), (7, .c (.v (.int .i64 22))), (8, .c (.v (.int .i64 2)))] (.vals u), [.b true 158 [.v (.int .i64 0), .v (.string ⟨#[]⟩), .v (.int .i64 0), .v (.bool false)], .b true 158 rowsSC]⟩ := by
  refine Hs.run0 300 (fun _ => by kernel_rfl) ?_
  refine Hs.condT (by kernel_rfl) ?_
  refine Hs.run1 300 (fun _ => by kernel_rfl) fun b2 => ?_
  refine Hs.cond ((3 : Int) == n) (by kernel_rfl) (fun h => ?_) (fun h => ?_)
  · obtain rfl : n = 3 := (by simpa using h : (3 : Int) = n).symm
    refine Hs.run0 300 (fun _ => by kernel_rfl) ?_
    exact Hs.ret (v := .tuple #[rowL 3, .bool true]) Tryz.func119 (by kernel_rfl) fun w' H => ⟨by rw [rowS_eq]; rfl, H.only⟩
  have h3 : n ≠ 3 := fun e => by rw [e] at h; simp at h
  refine Hs.run0 300 (fun _ => by kernel_rfl) ?_
  refine Hs.loop (by kernel_rfl) ?_
  exact Hs.goto (loopAt Tryz.f119 0) [0, 1] [.b true 158 [.v (.int .i64 0), .v (.string ⟨#[]⟩), .v (.int .i64 0), .v (.bool false)], .b true 158 rowsSC] [(0, .c (.v (.int .i64 n))), (2, .c (.p 0 0)), (6, .c (.s 1 0 22 22)), (7, .c (.v (.int .i64 22))), (8, .c (.v (.int .i64 3)))] (by kernel_rfl) (by decide) (by kernel_rfl) (by kernel_rfl) (fun _ => (by kernel_rfl)) (fun u => ofJ3 n w h1 h2 h3 b0 b1 u)
theorem ofJ1 (n : Int) (w : World) (h1 : n ≠ 1) (b0 b1 : Nat) (u : Nat → Value) : Hs Tryz.prog 119 (fun e w' => e = .returned (.tuple #[rowS n, .bool (isS n)]) ∧ Only [] w w') (Tryz.f119).ntmps w [] [b0, b1] ⟨.no, loopAt Tryz.f119 0, pins [(0, .c (.v (.int .i64 n))), (2, .c (.p 0 0)), (6, .c (.s 1 0 22 22)), (7, .c (.v (.int .i64 22))), (8, .c (.v (.int .i64 1)))] (.vals u), [.b true 158 [.v (.int .i64 0), .v (.string ⟨#[]⟩), .v (.int .i64 0), .v (.bool false)], .b true 158 rowsSC]⟩ := by
  refine Hs.run0 300 (fun _ => by kernel_rfl) ?_
  refine Hs.condT (by kernel_rfl) ?_
  refine Hs.run1 300 (fun _ => by kernel_rfl) fun b2 => ?_
  refine Hs.cond ((2 : Int) == n) (by kernel_rfl) (fun h => ?_) (fun h => ?_)
  · obtain rfl : n = 2 := (by simpa using h : (2 : Int) = n).symm
    refine Hs.run0 300 (fun _ => by kernel_rfl) ?_
    exact Hs.ret (v := .tuple #[rowL 2, .bool true]) Tryz.func119 (by kernel_rfl) fun w' H => ⟨by rw [rowS_eq]; rfl, H.only⟩
  have h2 : n ≠ 2 := fun e => by rw [e] at h; simp at h
  refine Hs.run0 300 (fun _ => by kernel_rfl) ?_
  refine Hs.loop (by kernel_rfl) ?_
  exact Hs.goto (loopAt Tryz.f119 0) [0, 1] [.b true 158 [.v (.int .i64 0), .v (.string ⟨#[]⟩), .v (.int .i64 0), .v (.bool false)], .b true 158 rowsSC] [(0, .c (.v (.int .i64 n))), (2, .c (.p 0 0)), (6, .c (.s 1 0 22 22)), (7, .c (.v (.int .i64 22))), (8, .c (.v (.int .i64 2)))] (by kernel_rfl) (by decide) (by kernel_rfl) (by kernel_rfl) (fun _ => (by kernel_rfl)) (fun u => ofJ2 n w h1 h2 b0 b1 u)
theorem ofJ0 (n : Int) (w : World) (b0 b1 : Nat) (u : Nat → Value) : Hs Tryz.prog 119 (fun e w' => e = .returned (.tuple #[rowS n, .bool (isS n)]) ∧ Only [] w w') (Tryz.f119).ntmps w [] [b0, b1] ⟨.no, loopAt Tryz.f119 0, pins [(0, .c (.v (.int .i64 n))), (2, .c (.p 0 0)), (6, .c (.s 1 0 22 22)), (7, .c (.v (.int .i64 22))), (8, .c (.v (.int .i64 0)))] (.vals u), [.b true 158 [.v (.int .i64 0), .v (.string ⟨#[]⟩), .v (.int .i64 0), .v (.bool false)], .b true 158 rowsSC]⟩ := by
  refine Hs.run0 300 (fun _ => by kernel_rfl) ?_
  refine Hs.condT (by kernel_rfl) ?_
  refine Hs.run1 300 (fun _ => by kernel_rfl) fun b2 => ?_
  refine Hs.cond ((1 : Int) == n) (by kernel_rfl) (fun h => ?_) (fun h => ?_)
  · obtain rfl : n = 1 := (by simpa using h : (1 : Int) = n).symm
    refine Hs.run0 300 (fun _ => by kernel_rfl) ?_
    exact Hs.ret (v := .tuple #[rowL 1, .bool true]) Tryz.func119 (by kernel_rfl) fun w' H => ⟨by rw [rowS_eq]; rfl, H.only⟩
  have h1 : n ≠ 1 := fun e => by rw [e] at h; simp at h
  refine Hs.run0 300 (fun _ => by kernel_rfl) ?_
  refine Hs.loop (by kernel_rfl) ?_
  exact Hs.goto (loopAt Tryz.f119 0) [0, 1] [.b true 158 [.v (.int .i64 0), .v (.string ⟨#[]⟩), .v (.int .i64 0), .v (.bool false)], .b true 158 rowsSC] [(0, .c (.v (.int .i64 n))), (2, .c (.p 0 0)), (6, .c (.s 1 0 22 22)), (7, .c (.v (.int .i64 22))), (8, .c (.v (.int .i64 1)))] (by kernel_rfl) (by decide) (by kernel_rfl) (by kernel_rfl) (fun _ => (by kernel_rfl)) (fun u => ofJ1 n w h1 b0 b1 u)
theorem of_any18 (n : Int) (w : World) : Calls Tryz.prog 119 #[.int .i64 n] w fun e w' => e = .returned (.tuple #[rowS n, .bool (isS n)]) ∧ Only [] w w' := by
  refine Hs.enter Tryz.func119 [] [] [] [.c (.v (.int .i64 n))] (Mem.start0 w) (by kernel_rfl) (by kernel_rfl) ?_
  refine Hs.run1 300 (fun _ => by kernel_rfl) fun b0 => ?_
  refine Hs.inl Tryz.func139 [] (by kernel_rfl) (by kernel_rfl) ?_
  refine Hs.run1 300 (fun _ => by kernel_rfl) fun b1 => ?_
  refine Hs.retI Tryz.func139 (by kernel_rfl) (by kernel_rfl) (by kernel_rfl) ?_
  refine Hs.run0 300 (fun _ => by kernel_rfl) ?_
  refine Hs.loop (by kernel_rfl) ?_
  exact Hs.goto (loopAt Tryz.f119 0) [0, 1] [.b true 158 [.v (.int .i64 0), .v (.string ⟨#[]⟩), .v (.int .i64 0), .v (.bool false)], .b true 158 rowsSC] [(0, .c (.v (.int .i64 n))), (2, .c (.p 0 0)), (6, .c (.s 1 0 22 22)), (7, .c (.v (.int .i64 22))), (8, .c (.v (.int .i64 0)))] (by kernel_rfl) (by decide) (by kernel_rfl) (by kernel_rfl) (fun _ => (by kernel_rfl)) (fun u => ofJ0 n w  b0 b1 u)
theorem r18name_any (n : Int) (w : World) : Calls Tryz.prog 100 #[.int .i64 n] w fun e w' => e = .returned (.tuple #[.string (if isS n then nameS n else ⟨#[]⟩), .bool (isS n)]) ∧ Only [] w w' := by
  refine Hs.enter Tryz.func100 [] [] [] [.c (.v (.int .i64 n))] (Mem.start0 w) (by kernel_rfl) (by kernel_rfl) ?_
  refine Hs.run0 300 (fun _ => by kernel_rfl) ?_
  refine Hs.callV (v := .tuple #[rowL n, .bool (isS n)]) (fun w' H => by rw [← rowS_eq]; exact of_any18 n w') (by kernel_rfl) ?_
  refine Hs.run1 300 (fun _ => by kernel_rfl) fun b0 => ?_
  exact Hs.ret (v := .tuple #[.string (if isS n then nameS n else ⟨#[]⟩), .bool (isS n)]) Tryz.func100 (by kernel_rfl) fun w' H => ⟨rfl, H.only⟩
end Go.Proofs.YtmmcamkmglpgiaaGreatDoor

namespace Go.Proofs.YtmmcamkmglpgiaaGreatDoor
set_option linter.all false
set_option maxRecDepth 100000
open Go.RowKit

/-- A setting. -/
structure TM where
  ch : Nat → Int
  fl : Int
  inn : Int
  out : Int
  mn : Int
  tm : Int
def TM.sc (t : TM) : List SC := [.v (.int .u8 (t.ch 0)), .v (.int .u8 (t.ch 1)), .v (.int .u8 (t.ch 2)), .v (.int .u8 (t.ch 3)), .v (.int .u8 (t.ch 4)), .v (.int .u8 (t.ch 5)), .v (.int .u8 (t.ch 6)), .v (.int .u8 (t.ch 7)), .v (.int .u8 (t.ch 8)), .v (.int .u8 (t.ch 9)), .v (.int .u8 (t.ch 10)), .v (.int .u8 (t.ch 11)), .v (.int .u8 (t.ch 12)), .v (.int .u8 (t.ch 13)), .v (.int .u8 (t.ch 14)), .v (.int .u8 (t.ch 15)), .v (.int .u8 (t.ch 16)), .v (.int .u8 (t.ch 17)), .v (.int .u8 (t.ch 18)), .v (.int .u64 t.fl), .v (.int .u32 t.inn), .v (.int .u32 t.out), .v (.int .i64 t.mn), .v (.int .i64 t.tm)]
def TM.cells (t : TM) : List Value := [.int .u8 (t.ch 0), .int .u8 (t.ch 1), .int .u8 (t.ch 2), .int .u8 (t.ch 3), .int .u8 (t.ch 4), .int .u8 (t.ch 5), .int .u8 (t.ch 6), .int .u8 (t.ch 7), .int .u8 (t.ch 8), .int .u8 (t.ch 9), .int .u8 (t.ch 10), .int .u8 (t.ch 11), .int .u8 (t.ch 12), .int .u8 (t.ch 13), .int .u8 (t.ch 14), .int .u8 (t.ch 15), .int .u8 (t.ch 16), .int .u8 (t.ch 17), .int .u8 (t.ch 18), .int .u64 t.fl, .int .u32 t.inn, .int .u32 t.out, .int .i64 t.mn, .int .i64 t.tm]
def TM.val (t : TM) : Value := .agg #[.int .u8 (t.ch 0), .int .u8 (t.ch 1), .int .u8 (t.ch 2), .int .u8 (t.ch 3), .int .u8 (t.ch 4), .int .u8 (t.ch 5), .int .u8 (t.ch 6), .int .u8 (t.ch 7), .int .u8 (t.ch 8), .int .u8 (t.ch 9), .int .u8 (t.ch 10), .int .u8 (t.ch 11), .int .u8 (t.ch 12), .int .u8 (t.ch 13), .int .u8 (t.ch 14), .int .u8 (t.ch 15), .int .u8 (t.ch 16), .int .u8 (t.ch 17), .int .u8 (t.ch 18), .int .u64 t.fl, .int .u32 t.inn, .int .u32 t.out, .int .i64 t.mn, .int .i64 t.tm]
def isFlagB (op : Int) : Bool := (decide (30 ≤ op) && decide (op ≤ 42)) || ((decide (50 ≤ op) && decide (op ≤ 62)) || ((decide (70 ≤ op) && decide (op ≤ 75)) || (decide (90 ≤ op) && decide (op ≤ 93))))
def bitI (op : Int) : Int := ((2 ^ (op - 30).toNat : Nat) : Int)
/-- A flag is on. -/
def hasI (fl op : Int) : Bool := isFlagB op && (IntKind.u64.wrap (((BitVec.ofInt 64 fl) &&& (BitVec.ofInt 64 (bitI op))).toNat) != 0)
def TM.has (t : TM) (op : Int) : Bool := hasI t.fl op
/-- With a flag on, or off. -/
def setI (fl op : Int) (on : Bool) : Int := if isFlagB op then (if on then IntKind.u64.wrap (((BitVec.ofInt 64 fl) ||| (BitVec.ofInt 64 (bitI op))).toNat) else IntKind.u64.wrap (((BitVec.ofInt 64 fl) &&& ~~~(BitVec.ofInt 64 (bitI op))).toNat)) else fl
def TM.set (t : TM) (op : Int) (on : Bool) : TM := { t with fl := setI t.fl op on }
theorem groups_any (w : World) : Calls Tryz.prog 147 #[] w fun e w' => e = .returned (.agg #[.int .i64 30, .int .i64 42, .int .i64 50, .int .i64 62, .int .i64 70, .int .i64 75, .int .i64 90, .int .i64 93]) ∧ Only [] w w' := by
  refine Hs.enter Tryz.func147 [] [] [] [] (Mem.start0 w) (by kernel_rfl) (by kernel_rfl) ?_
  refine Hs.run1 300 (fun _ => by kernel_rfl) fun b0 => ?_
  exact Hs.ret (v := .agg #[.int .i64 30, .int .i64 42, .int .i64 50, .int .i64 62, .int .i64 70, .int .i64 75, .int .i64 90, .int .i64 93]) Tryz.func147 (by kernel_rfl) fun w' H => ⟨rfl, H.only⟩
theorem flag_step {x y op : Int} {r : Bool} : ((decide (x ≤ op) && decide (op ≤ y)) || r) = if x ≤ op ∧ op ≤ y then true else r := by
  by_cases h1 : x ≤ op <;> by_cases h2 : op ≤ y <;> simp [h1, h2]
theorem isFlag_any (op : Int) (w : World) : Calls Tryz.prog 132 #[.int .i64 op] w fun e w' => e = .returned (.bool (isFlagB op)) ∧ Only [] w w' := by
  have J4 : ¬ ((30 : Int) ≤ op ∧ op ≤ 42) → ¬ ((50 : Int) ≤ op ∧ op ≤ 62) → ¬ ((70 : Int) ≤ op ∧ op ≤ 75) → ¬ ((90 : Int) ≤ op ∧ op ≤ 93) → ∀ u : Nat → Value, Hs Tryz.prog 132 (fun e w' => e = .returned (.bool (isFlagB op)) ∧ Only [] w w') (Tryz.f132).ntmps w [] [] ⟨.no, loopAt Tryz.f132 0, pins [(0, .c (.v (.int .i64 op))), (2, .c (.v (.bool false))), (5, .c (.v (.agg #[.int .i64 30, .int .i64 42, .int .i64 50, .int .i64 62, .int .i64 70, .int .i64 75, .int .i64 90, .int .i64 93]))), (6, .c (.v (.int .i64 4)))] (.vals u), []⟩ := by
    intro g0 g1 g2 g3 u
    refine Hs.run0 300 (fun _ => by kernel_rfl) ?_
    refine Hs.condF (by kernel_rfl) ?_
    refine Hs.run0 300 (fun _ => by kernel_rfl) ?_
    have e : isFlagB op = false := by
      simp only [isFlagB, flag_step, if_neg g0, if_neg g1, if_neg g2]
      simpa using g3
    exact Hs.ret (v := .bool false) Tryz.func132 (by kernel_rfl) fun w' H => ⟨by rw [e], H.only⟩
  have J3 : ¬ ((30 : Int) ≤ op ∧ op ≤ 42) → ¬ ((50 : Int) ≤ op ∧ op ≤ 62) → ¬ ((70 : Int) ≤ op ∧ op ≤ 75) → ∀ u : Nat → Value, Hs Tryz.prog 132 (fun e w' => e = .returned (.bool (isFlagB op)) ∧ Only [] w w') (Tryz.f132).ntmps w [] [] ⟨.no, loopAt Tryz.f132 0, pins [(0, .c (.v (.int .i64 op))), (2, .c (.v (.bool false))), (5, .c (.v (.agg #[.int .i64 30, .int .i64 42, .int .i64 50, .int .i64 62, .int .i64 70, .int .i64 75, .int .i64 90, .int .i64 93]))), (6, .c (.v (.int .i64 3)))] (.vals u), []⟩ := by
    intro g0 g1 g2 u
    refine Hs.run0 300 (fun _ => by kernel_rfl) ?_
    refine Hs.condT (by kernel_rfl) ?_
    refine Hs.run1 300 (fun _ => by kernel_rfl) fun c0 => ?_
    refine Hs.bool 13 (decide ((90 : Int) ≤ op)) (by kernel_rfl) (fun h => ?_) (fun h => ?_)
    · have h1 := of_decide_eq_true h
      refine Hs.rung0 [4] 300 (fun _ => by kernel_rfl) ?_
      refine Hs.condP (op ≤ (93 : Int)) (by kernel_rfl) (fun h2 => ?_) (fun h2 => ?_)
      · have e : isFlagB op = true := by
          simp only [isFlagB, flag_step, if_neg g0, if_neg g1, if_neg g2]
          simp [h1, h2]
        refine Hs.run0 300 (fun _ => by kernel_rfl) ?_
        exact Hs.ret (v := .bool true) Tryz.func132 (by kernel_rfl) fun w' H => ⟨by rw [e], H.only⟩
      · refine Hs.run0 300 (fun _ => by kernel_rfl) ?_
        refine Hs.loop (by kernel_rfl) ?_
        exact Hs.goto (loopAt Tryz.f132 0) [] [] [(0, .c (.v (.int .i64 op))), (2, .c (.v (.bool false))), (5, .c (.v (.agg #[.int .i64 30, .int .i64 42, .int .i64 50, .int .i64 62, .int .i64 70, .int .i64 75, .int .i64 90, .int .i64 93]))), (6, .c (.v (.int .i64 4)))] (by kernel_rfl) (by decide) (by kernel_rfl) (by kernel_rfl) (fun _ => (by kernel_rfl)) (J4 g0 g1 g2 (fun h => by omega))
    · have h1 := of_decide_eq_false h
      refine Hs.rung0 [4] 300 (fun _ => by kernel_rfl) ?_
      refine Hs.condF (by kernel_rfl) ?_
      refine Hs.run0 300 (fun _ => by kernel_rfl) ?_
      refine Hs.loop (by kernel_rfl) ?_
      exact Hs.goto (loopAt Tryz.f132 0) [] [] [(0, .c (.v (.int .i64 op))), (2, .c (.v (.bool false))), (5, .c (.v (.agg #[.int .i64 30, .int .i64 42, .int .i64 50, .int .i64 62, .int .i64 70, .int .i64 75, .int .i64 90, .int .i64 93]))), (6, .c (.v (.int .i64 4)))] (by kernel_rfl) (by decide) (by kernel_rfl) (by kernel_rfl) (fun _ => (by kernel_rfl)) (J4 g0 g1 g2 (fun h => by omega))
  have J2 : ¬ ((30 : Int) ≤ op ∧ op ≤ 42) → ¬ ((50 : Int) ≤ op ∧ op ≤ 62) → ∀ u : Nat → Value, Hs Tryz.prog 132 (fun e w' => e = .returned (.bool (isFlagB op)) ∧ Only [] w w') (Tryz.f132).ntmps w [] [] ⟨.no, loopAt Tryz.f132 0, pins [(0, .c (.v (.int .i64 op))), (2, .c (.v (.bool false))), (5, .c (.v (.agg #[.int .i64 30, .int .i64 42, .int .i64 50, .int .i64 62, .int .i64 70, .int .i64 75, .int .i64 90, .int .i64 93]))), (6, .c (.v (.int .i64 2)))] (.vals u), []⟩ := by
    intro g0 g1 u
    refine Hs.run0 300 (fun _ => by kernel_rfl) ?_
    refine Hs.condT (by kernel_rfl) ?_
    refine Hs.run1 300 (fun _ => by kernel_rfl) fun c0 => ?_
    refine Hs.bool 13 (decide ((70 : Int) ≤ op)) (by kernel_rfl) (fun h => ?_) (fun h => ?_)
    · have h1 := of_decide_eq_true h
      refine Hs.rung0 [4] 300 (fun _ => by kernel_rfl) ?_
      refine Hs.condP (op ≤ (75 : Int)) (by kernel_rfl) (fun h2 => ?_) (fun h2 => ?_)
      · have e : isFlagB op = true := by
          simp only [isFlagB, flag_step, if_neg g0, if_neg g1]
          simp [h1, h2]
        refine Hs.run0 300 (fun _ => by kernel_rfl) ?_
        exact Hs.ret (v := .bool true) Tryz.func132 (by kernel_rfl) fun w' H => ⟨by rw [e], H.only⟩
      · refine Hs.run0 300 (fun _ => by kernel_rfl) ?_
        refine Hs.loop (by kernel_rfl) ?_
        exact Hs.goto (loopAt Tryz.f132 0) [] [] [(0, .c (.v (.int .i64 op))), (2, .c (.v (.bool false))), (5, .c (.v (.agg #[.int .i64 30, .int .i64 42, .int .i64 50, .int .i64 62, .int .i64 70, .int .i64 75, .int .i64 90, .int .i64 93]))), (6, .c (.v (.int .i64 3)))] (by kernel_rfl) (by decide) (by kernel_rfl) (by kernel_rfl) (fun _ => (by kernel_rfl)) (J3 g0 g1 (fun h => by omega))
    · have h1 := of_decide_eq_false h
      refine Hs.rung0 [4] 300 (fun _ => by kernel_rfl) ?_
      refine Hs.condF (by kernel_rfl) ?_
      refine Hs.run0 300 (fun _ => by kernel_rfl) ?_
      refine Hs.loop (by kernel_rfl) ?_
      exact Hs.goto (loopAt Tryz.f132 0) [] [] [(0, .c (.v (.int .i64 op))), (2, .c (.v (.bool false))), (5, .c (.v (.agg #[.int .i64 30, .int .i64 42, .int .i64 50, .int .i64 62, .int .i64 70, .int .i64 75, .int .i64 90, .int .i64 93]))), (6, .c (.v (.int .i64 3)))] (by kernel_rfl) (by decide) (by kernel_rfl) (by kernel_rfl) (fun _ => (by kernel_rfl)) (J3 g0 g1 (fun h => by omega))
  have J1 : ¬ ((30 : Int) ≤ op ∧ op ≤ 42) → ∀ u : Nat → Value, Hs Tryz.prog 132 (fun e w' => e = .returned (.bool (isFlagB op)) ∧ Only [] w w') (Tryz.f132).ntmps w [] [] ⟨.no, loopAt Tryz.f132 0, pins [(0, .c (.v (.int .i64 op))), (2, .c (.v (.bool false))), (5, .c (.v (.agg #[.int .i64 30, .int .i64 42, .int .i64 50, .int .i64 62, .int .i64 70, .int .i64 75, .int .i64 90, .int .i64 93]))), (6, .c (.v (.int .i64 1)))] (.vals u), []⟩ := by
    intro g0 u
    refine Hs.run0 300 (fun _ => by kernel_rfl) ?_
    refine Hs.condT (by kernel_rfl) ?_
    refine Hs.run1 300 (fun _ => by kernel_rfl) fun c0 => ?_
    refine Hs.bool 13 (decide ((50 : Int) ≤ op)) (by kernel_rfl) (fun h => ?_) (fun h => ?_)
    · have h1 := of_decide_eq_true h
      refine Hs.rung0 [4] 300 (fun _ => by kernel_rfl) ?_
      refine Hs.condP (op ≤ (62 : Int)) (by kernel_rfl) (fun h2 => ?_) (fun h2 => ?_)
      · have e : isFlagB op = true := by
          simp only [isFlagB, flag_step, if_neg g0]
          simp [h1, h2]
        refine Hs.run0 300 (fun _ => by kernel_rfl) ?_
        exact Hs.ret (v := .bool true) Tryz.func132 (by kernel_rfl) fun w' H => ⟨by rw [e], H.only⟩
      · refine Hs.run0 300 (fun _ => by kernel_rfl) ?_
        refine Hs.loop (by kernel_rfl) ?_
        exact Hs.goto (loopAt Tryz.f132 0) [] [] [(0, .c (.v (.int .i64 op))), (2, .c (.v (.bool false))), (5, .c (.v (.agg #[.int .i64 30, .int .i64 42, .int .i64 50, .int .i64 62, .int .i64 70, .int .i64 75, .int .i64 90, .int .i64 93]))), (6, .c (.v (.int .i64 2)))] (by kernel_rfl) (by decide) (by kernel_rfl) (by kernel_rfl) (fun _ => (by kernel_rfl)) (J2 g0 (fun h => by omega))
    · have h1 := of_decide_eq_false h
      refine Hs.rung0 [4] 300 (fun _ => by kernel_rfl) ?_
      refine Hs.condF (by kernel_rfl) ?_
      refine Hs.run0 300 (fun _ => by kernel_rfl) ?_
      refine Hs.loop (by kernel_rfl) ?_
      exact Hs.goto (loopAt Tryz.f132 0) [] [] [(0, .c (.v (.int .i64 op))), (2, .c (.v (.bool false))), (5, .c (.v (.agg #[.int .i64 30, .int .i64 42, .int .i64 50, .int .i64 62, .int .i64 70, .int .i64 75, .int .i64 90, .int .i64 93]))), (6, .c (.v (.int .i64 2)))] (by kernel_rfl) (by decide) (by kernel_rfl) (by kernel_rfl) (fun _ => (by kernel_rfl)) (J2 g0 (fun h => by omega))
  have J0 : ∀ u : Nat → Value, Hs Tryz.prog 132 (fun e w' => e = .returned (.bool (isFlagB op)) ∧ Only [] w w') (Tryz.f132).ntmps w [] [] ⟨.no, loopAt Tryz.f132 0, pins [(0, .c (.v (.int .i64 op))), (2, .c (.v (.bool false))), (5, .c (.v (.agg #[.int .i64 30, .int .i64 42, .int .i64 50, .int .i64 62, .int .i64 70, .int .i64 75, .int .i64 90, .int .i64 93]))), (6, .c (.v (.int .i64 0)))] (.vals u), []⟩ := by
    intro  u
    refine Hs.run0 300 (fun _ => by kernel_rfl) ?_
    refine Hs.condT (by kernel_rfl) ?_
    refine Hs.run1 300 (fun _ => by kernel_rfl) fun c0 => ?_
    refine Hs.bool 13 (decide ((30 : Int) ≤ op)) (by kernel_rfl) (fun h => ?_) (fun h => ?_)
    · have h1 := of_decide_eq_true h
      refine Hs.rung0 [4] 300 (fun _ => by kernel_rfl) ?_
      refine Hs.condP (op ≤ (42 : Int)) (by kernel_rfl) (fun h2 => ?_) (fun h2 => ?_)
      · have e : isFlagB op = true := by
          simp only [isFlagB, flag_step]
          simp [h1, h2]
        refine Hs.run0 300 (fun _ => by kernel_rfl) ?_
        exact Hs.ret (v := .bool true) Tryz.func132 (by kernel_rfl) fun w' H => ⟨by rw [e], H.only⟩
      · refine Hs.run0 300 (fun _ => by kernel_rfl) ?_
        refine Hs.loop (by kernel_rfl) ?_
        exact Hs.goto (loopAt Tryz.f132 0) [] [] [(0, .c (.v (.int .i64 op))), (2, .c (.v (.bool false))), (5, .c (.v (.agg #[.int .i64 30, .int .i64 42, .int .i64 50, .int .i64 62, .int .i64 70, .int .i64 75, .int .i64 90, .int .i64 93]))), (6, .c (.v (.int .i64 1)))] (by kernel_rfl) (by decide) (by kernel_rfl) (by kernel_rfl) (fun _ => (by kernel_rfl)) (J1  (fun h => by omega))
    · have h1 := of_decide_eq_false h
      refine Hs.rung0 [4] 300 (fun _ => by kernel_rfl) ?_
      refine Hs.condF (by kernel_rfl) ?_
      refine Hs.run0 300 (fun _ => by kernel_rfl) ?_
      refine Hs.loop (by kernel_rfl) ?_
      exact Hs.goto (loopAt Tryz.f132 0) [] [] [(0, .c (.v (.int .i64 op))), (2, .c (.v (.bool false))), (5, .c (.v (.agg #[.int .i64 30, .int .i64 42, .int .i64 50, .int .i64 62, .int .i64 70, .int .i64 75, .int .i64 90, .int .i64 93]))), (6, .c (.v (.int .i64 1)))] (by kernel_rfl) (by decide) (by kernel_rfl) (by kernel_rfl) (fun _ => (by kernel_rfl)) (J1  (fun h => by omega))
  refine Hs.enter Tryz.func132 [] [] [] [.c (.v (.int .i64 op))] (Mem.start0 w) (by kernel_rfl) (by kernel_rfl) ?_
  refine Hs.run0 300 (fun _ => by kernel_rfl) ?_
  refine Hs.callV (fun w' H => groups_any w') (by kernel_rfl) ?_
  refine Hs.run0 300 (fun _ => by kernel_rfl) ?_
  refine Hs.loop (by kernel_rfl) ?_
  exact Hs.goto (loopAt Tryz.f132 0) [] [] [(0, .c (.v (.int .i64 op))), (2, .c (.v (.bool false))), (5, .c (.v (.agg #[.int .i64 30, .int .i64 42, .int .i64 50, .int .i64 62, .int .i64 70, .int .i64 75, .int .i64 90, .int .i64 93]))), (6, .c (.v (.int .i64 0)))] (by kernel_rfl) (by decide) (by kernel_rfl) (by kernel_rfl) (fun _ => (by kernel_rfl)) J0
theorem flag_lo {op : Int} (h : isFlagB op = true) : 30 ≤ op ∧ op ≤ 93 := by
  simp [isFlagB] at h
  omega
theorem bit_any (op : Int) (h1 : 30 ≤ op) (h2 : op ≤ 93) (w : World) : Calls Tryz.prog 133 #[.int .i64 op] w fun e w' => e = .returned (.int .u64 (bitI op)) ∧ Only [] w w' := by
  refine Hs.enter Tryz.func133 [] [] [] [.c (.v (.int .i64 op))] (Mem.start0 w) (by kernel_rfl) (by kernel_rfl) ?_
  refine Hs.rung0 [] 8 (fun _ => (by kernel_rfl)) ?_
  have e : IntKind.i64.wrap (op - 30) = op - 30 := IntWalk.i64_in _ (by omega)
  have e2 : IntKind.u64.wrap ((1 : Int) * 2 ^ min (op - 30).toNat 64) = bitI op := by
    rw [Nat.min_eq_left (by omega), Int.one_mul]
    unfold bitI
    have h3 : (2 : Int) ^ (op - 30).toNat = ((2 ^ (op - 30).toNat : Nat) : Int) := (Int.natCast_pow 2 _).symm
    have h6 : (op - 30).toNat < 64 := by omega
    have h4 : 2 ^ (op - 30).toNat < 2 ^ 64 := Nat.pow_lt_pow_right (by decide) h6
    rw [h3]
    generalize 2 ^ (op - 30).toNat = q at h4
    have h7 : q < 18446744073709551616 := h4
    have h5 : (q : Int) < 18446744073709551616 := by omega
    show ((q : Int) % (18446744073709551616 : Int)) = _
    exact Int.emod_eq_of_lt (Int.natCast_nonneg q) h5
  refine Hs.bin (op := .shl) (T := 147) (k := .u64) (k' := .i64) (a := 1) (b := IntKind.i64.wrap (op - 30)) (.int .u64 (IntKind.u64.wrap ((1 : Int) * 2 ^ min (IntKind.i64.wrap (op - 30)).toNat 64))) (by kernel_rfl) (fun w => run_shl (by rw [e]; omega) w) ?_
  refine Hs.run0 300 (fun _ => by kernel_rfl) ?_
  exact Hs.ret (v := .int .u64 (IntKind.u64.wrap ((1 : Int) * 2 ^ min (IntKind.i64.wrap (op - 30)).toNat 64))) Tryz.func133 (by kernel_rfl) fun w' H => ⟨by rw [e, e2], H.only⟩
def TM.chr (t : TM) (op : Nat) : Int := if t.ch op == 255 then 0 else t.ch op
def TM.on (t : TM) (op : Nat) : Bool := !(t.ch op == 255)
def TM.is (t : TM) (op : Nat) (c : Int) : Bool := t.on op && c == t.ch op
theorem set_any (t : TM) (op : Int) (on : Bool) (w : World) : Calls Tryz.prog 114 #[t.val, .int .i64 op, .bool on] w fun e w' => e = .returned (t.set op on).val ∧ Only [] w w' := by
  obtain ⟨ch, fl, inn, out, mn, tm⟩ := t
  refine Hs.enter Tryz.func114 [] [] [] [.g (TM.sc ⟨ch, fl, inn, out, mn, tm⟩), .c (.v (.int .i64 op)), .c (.v (.bool on))] (Mem.start0 w) (by kernel_rfl) (by kernel_rfl) ?_
  refine Hs.run2 300 (fun _ => by kernel_rfl) fun b0 b1 => ?_
  refine Hs.callV (fun w' H => isFlag_any op w') (by kernel_rfl) ?_
  refine Hs.run0 300 (fun _ => by kernel_rfl) ?_
  refine Hs.cond (!isFlagB op) (by kernel_rfl) (fun h => ?_) (fun h => ?_)
  · refine Hs.run0 300 (fun _ => by kernel_rfl) ?_
    exact Hs.ret (v := TM.val ⟨ch, fl, inn, out, mn, tm⟩) Tryz.func114 (by kernel_rfl) fun w' H => ⟨by
      have h : isFlagB op = false := by simpa using h
      simp only [TM.set, setI, h, Bool.false_eq_true, if_false], H.only⟩
  have h : isFlagB op = true := by simpa using h
  obtain ⟨h1, h2⟩ := flag_lo h
  refine Hs.run0 300 (fun _ => by kernel_rfl) ?_
  refine Hs.cond on (by kernel_rfl) (fun ho => ?_) (fun ho => ?_)
  · refine Hs.run0 300 (fun _ => by kernel_rfl) ?_
    refine Hs.any [0, 1006] (by kernel_rfl) ?_
    refine Hs.run0 300 (fun _ => by kernel_rfl) ?_
    refine Hs.callV (fun w' H => bit_any op h1 h2 w') (by kernel_rfl) ?_
    refine Hs.run0 300 (fun _ => by kernel_rfl) ?_
    exact Hs.ret (v := TM.val ⟨ch, IntKind.u64.wrap (((BitVec.ofInt 64 fl) ||| (BitVec.ofInt 64 (bitI op))).toNat), inn, out, mn, tm⟩) Tryz.func114 (by kernel_rfl) fun w' H => ⟨by subst ho; simp only [TM.set, setI, h, if_true], H.only⟩
  · refine Hs.run0 300 (fun _ => by kernel_rfl) ?_
    refine Hs.any [0, 1006] (by kernel_rfl) ?_
    refine Hs.run0 300 (fun _ => by kernel_rfl) ?_
    refine Hs.callV (fun w' H => bit_any op h1 h2 w') (by kernel_rfl) ?_
    refine Hs.run0 300 (fun _ => by kernel_rfl) ?_
    exact Hs.ret (v := TM.val ⟨ch, IntKind.u64.wrap (((BitVec.ofInt 64 fl) &&& ~~~(BitVec.ofInt 64 (bitI op))).toNat), inn, out, mn, tm⟩) Tryz.func114 (by kernel_rfl) fun w' H => ⟨by subst ho; simp only [TM.set, setI, h, if_true, Bool.false_eq_true, if_false], H.only⟩
end Go.Proofs.YtmmcamkmglpgiaaGreatDoor

namespace Go.Proofs.YtmmcamkmglpgiaaGreatDoor
set_option linter.all false

section
variable (P : Program)
def cmpL (rec : TypeId → Value → Value → Option Bool) (xs ys : Array Value) : List Field → Option Bool
  | [] => some true
  | f :: l => match f.name != "_" with
    | true => match partS P f.type (xs.toList.map .v) f.offset, partS P f.type (ys.toList.map .v) f.offset with
      | some u, some u' => match rec f.type (u.den []) (u'.den []), cmpL rec xs ys l with
        | some a, some b => some (a && b)
        | _, _ => none
      | _, _ => none
    | false => none
def cmpI (rec : TypeId → Value → Value → Option Bool) (e : TypeId) (n : Nat) (xs ys : Array Value) : List Nat → Option Bool
  | [] => some true
  | i :: l => match partS P e (xs.toList.map .v) (i * n), partS P e (ys.toList.map .v) (i * n) with
    | some u, some u' => match rec e (u.den []) (u'.den []), cmpI rec e n xs ys l with
      | some a, some b => some (a && b)
      | _, _ => none
    | _, _ => none
/-- What a comparison of two values answers. -/
def cmpB : Nat → TypeId → Value → Value → Option Bool
  | 0, _, _, _ => none
  | m + 1, t, v, v' => match P.underlying t with
    | some .bool => match v, v' with
      | .bool a, .bool b => some (a == b)
      | _, _ => none
    | some (.int _) => match v, v' with
      | .int k a, .int k' b => match decide (k = k') with
        | true => some (a == b)
        | false => none
      | _, _ => none
    | some (.struct fs) => match v, v' with
      | .agg xs, .agg ys => match P.stoodInHeld t with
        | false => cmpL P (cmpB m) xs ys fs.toList
        | true => none
      | _, _ => none
    | some .string => match v, v' with
      | .string a, .string b => some (a.toList == b.toList)
      | _, _ => none
    | some (.array len e) => match v, v' with
      | .agg xs, .agg ys => match P.info? e with
        | some _ => cmpI P (cmpB m) e (P.cellsOf e) xs ys (List.range len)
        | none => none
      | _, _ => none
    | _ => none
end
section
variable {P : Program}
theorem cmpB_run : ∀ (m : Nat) (t : TypeId) (v v' : Value) (r : Bool), cmpB P m t v v' = some r → ∀ (d : Nat) (w : World), (Op.equalIn (d + m) t v v').run P w = .ok r w
  | 0, t, v, v', r, h, d, w => by simp [cmpB] at h
  | m + 1, t, v, v', r, h, d, w => by
    rw [show d + (m + 1) = (d + m) + 1 by omega]
    unfold cmpB at h
    split at h
    · rename_i hu
      split at h
      · rename_i a b
        injection h with h
        subst h
        rw [run_equalIn_bool' w (d + m) t a b hu]
      · cases h
    · rename_i k hu
      split at h
      · rename_i k1 a k2 b
        split at h
        · rename_i hk
          have hk : k1 = k2 := by simpa using hk
          subst hk
          injection h with h
          subst h
          rw [run_equalIn_int w (d + m) t k1 k a b hu]
        · cases h
      · cases h
    · rename_i fs hu
      split at h
      · rename_i xs ys
        split at h
        · rename_i hst
          have hf : P.fieldsOf t = fs := by unfold Program.fieldsOf; rw [hu]
          rw [run_equalIn_struct w (d + m) t xs ys (by rw [hf]; exact hu) hst, hf]
          have key : ∀ (l : List Field) (r : Bool), cmpL P (cmpB P m) xs ys l = some r → (Op.eqFields (d + m) xs ys l).run P w = .ok r w := by
            intro l
            induction l with
            | nil => intro r h; simp only [cmpL, Option.some.injEq] at h; subst h; simp [Op.eqFields]
            | cons f l ih =>
              intro r hl
              unfold cmpL at hl
              split at hl
              · rename_i h1
                split at hl
                · rename_i u u' hp hp'
                  split at hl
                  · rename_i a b ha hb
                    injection hl with hl
                    subst hl
                    have hpart : (part f.type xs f.offset).run P w = .ok (u.den []) w := by
                      have := run_part_S (β := []) (w := w) hp
                      rwa [dens_v, Array.toArray_toList] at this
                    have hpart' : (part f.type ys f.offset).run P w = .ok (u'.den []) w := by
                      have := run_part_S (β := []) (w := w) hp'
                      rwa [dens_v, Array.toArray_toList] at this
                    have hne : f.name ≠ "_" := by simpa using h1
                    have hc := cmpB_run m f.type (u.den []) (u'.den []) a ha d w
                    simp only [Op.eqFields, hne, ne_eq, not_false_eq_true, if_true, Sem.run_bind, hpart, hpart', Result.andThen_ok, hc]
                    cases a
                    · simp
                    · simp only [Bool.not_true, Bool.false_eq_true, if_false, Bool.true_and]
                      exact ih b hb
                  · cases hl
                · cases hl
              · cases hl
          exact key fs.toList r h
        · cases h
      · cases h
    · rename_i hu
      split at h
      · rename_i a b
        injection h with h
        subst h
        rw [run_equalIn_string w (d + m) t a b hu]
      · cases h
    · rename_i len e hu
      split at h
      · rename_i xs ys
        split at h
        · rename_i i hi
          rw [run_equalIn_array w (d + m) xs ys hu hi]
          have key : ∀ (l : List Nat) (r : Bool), cmpI P (cmpB P m) e (P.cellsOf e) xs ys l = some r → (Op.eqItems (d + m) e (P.cellsOf e) xs ys l).run P w = .ok r w := by
            intro l
            induction l with
            | nil => intro r h; simp only [cmpI, Option.some.injEq] at h; subst h; simp [Op.eqItems]
            | cons f l ih =>
              intro r hl
              unfold cmpI at hl
              split at hl
              · rename_i u u' hp hp'
                split at hl
                · rename_i a b ha hb
                  injection hl with hl
                  subst hl
                  have hpart : (part e xs (f * P.cellsOf e)).run P w = .ok (u.den []) w := by
                    have := run_part_S (β := []) (w := w) hp
                    rwa [dens_v, Array.toArray_toList] at this
                  have hpart' : (part e ys (f * P.cellsOf e)).run P w = .ok (u'.den []) w := by
                    have := run_part_S (β := []) (w := w) hp'
                    rwa [dens_v, Array.toArray_toList] at this
                  have hc := cmpB_run m e (u.den []) (u'.den []) a ha d w
                  simp only [Op.eqItems, Sem.run_bind, hpart, hpart', Result.andThen_ok, hc]
                  cases a
                  · simp
                  · simp only [Bool.not_true, Bool.false_eq_true, if_false, Bool.true_and]
                    exact ih b hb
                · cases hl
              · cases hl
          exact key (List.range len) r h
        · cases h
      · cases h
    · cases h
variable {f : FR} {R : Ending → World → Prop} {n : Nat} {w0 : World} {L : List Nat} {β : List Nat} {m : SM}
theorem run_cmp {op : BinOp} {T : TypeId} {xs ys : Array Value} {b r : Bool} (ho : op = .eql ∧ b = r ∨ op = .neq ∧ b = !r) (hm : P.eqGuardType P.depth T = false) (h : cmpB P 100 T (.agg xs) (.agg ys) = some r) (x y : Operand) (w : World) : ((do eqGuard op T x y (.agg xs) (.agg ys); binOp op T (.agg xs) (.agg ys)) : Sem Value).run P w = .ok (.bool b) w := by
  have hr := cmpB_run 100 T (.agg xs) (.agg ys) r h 9900 w
  rcases ho with ⟨rfl, rfl⟩ | ⟨rfl, rfl⟩
  · simp only [Sem.run_bind, run_eqGuard_agg w _ T x y xs ys hm, Result.andThen_ok, run_eql_struct]
    rw [show (10000 : Nat) = 9900 + 100 from rfl, hr]; rfl
  · simp only [Sem.run_bind, run_eqGuard_agg w _ T x y xs ys hm, Result.andThen_ok, run_neq_struct]
    rw [show (10000 : Nat) = 9900 + 100 from rfl, hr]; rfl
/-- Two structs compared. -/
theorem Hs.cmp {op : BinOp} {T : TypeId} (xs ys : Array Value) (r b : Bool) (hc : sameOf n β m = some (op, T, .agg xs, .agg ys)) (ho : op = .eql ∧ b = r ∨ op = .neq ∧ b = !r) (hm : (!P.eqGuardType P.depth T) = true) (hb : cmpB P 100 T (.agg xs) (.agg ys) = some r) (h : Hs P f R n w0 L β (m.put (dstOf m) (.c (.v (.bool b))) m.hp)) : Hs P f R n w0 L β m := by
  simp only [Bool.not_eq_true'] at hm
  refine ⟨fun w H W => ?_⟩
  unfold sameOf at hc
  split at hc
  · rename_i o hcur
    split at hc
    · rename_i hg
      split at hc
      · rename_i op' T' x y z hop
        simp only [Option.some.injEq, Prod.mk.injEq] at hc
        obtain ⟨rfl, rfl, hx, hy⟩ := hc
        have hd : dstOf m = o.dst := by unfold dstOf; rw [hcur]
        rw [hd] at h
        refine Gs.val (v := .c (.v (.bool b))) hcur hg ?_ (h.go w H ?_)
        · have hr := run_cmp (P := P) ho hm hb x y w
          simp only [execOp, hop, hx, hy, Sem.run_bind] at hr ⊢
          simp only [hr, Result.andThen_ok, Sem.run_pure]
          rfl
        · simp only [SM.wf, SM.put, Bool.and_eq_true]
          exact ⟨putS_wf (SM.wf_sl W) rfl, SM.wf_hp W⟩
      · cases hc
    · cases hc
  · cases hc
end
end Go.Proofs.YtmmcamkmglpgiaaGreatDoor

namespace Go.Proofs.YtmmcamkmglpgiaaGreatDoor
set_option linter.all false
set_option maxRecDepth 100000
open Go.RowKit
theorem flag_t {op : Int} (h : (30 ≤ op ∧ op ≤ 42) ∨ (50 ≤ op ∧ op ≤ 62) ∨ (70 ≤ op ∧ op ≤ 75) ∨ (90 ≤ op ∧ op ≤ 93)) : isFlagB op = true := by
  simp only [isFlagB, Bool.or_eq_true, Bool.and_eq_true, decide_eq_true_eq]
  omega
theorem flag_f {op : Int} (h : ¬ ((30 ≤ op ∧ op ≤ 42) ∨ (50 ≤ op ∧ op ≤ 62) ∨ (70 ≤ op ∧ op ≤ 75) ∨ (90 ≤ op ∧ op ≤ 93))) : isFlagB op = false := by
  cases hb : isFlagB op with
  | false => rfl
  | true =>
    simp only [isFlagB, Bool.or_eq_true, Bool.and_eq_true, decide_eq_true_eq] at hb
    omega
theorem r8flag_any (op : Int) (w : World) : Calls Tryz.prog 82 #[.int .i64 op] w fun e w' => e = .returned (.bool (isFlagB op)) ∧ Only [] w w' := by
  refine Hs.enter Tryz.func82 [] [] [] [.c (.v (.int .i64 op))] (Mem.start0 w) (by kernel_rfl) (by kernel_rfl) ?_
  refine Hs.run0 300 (fun _ => by kernel_rfl) ?_
  refine Hs.bool 5 (decide (op ≥ 30)) (by kernel_rfl) (fun a0 => ?_) (fun a0 => ?_)
  · replace a0 := of_decide_eq_true a0
    refine Hs.rung0 [2] 300 (fun _ => by kernel_rfl) ?_
    refine Hs.bool 9 (decide (op ≤ 42)) (by kernel_rfl) (fun c0 => ?_) (fun c0 => ?_)
    · replace c0 := of_decide_eq_true c0
      refine Hs.rung0 [2, 6, 9, 14, 17, 22, 25] 300 (fun _ => by kernel_rfl) ?_
      exact Hs.ret (v := .bool true) Tryz.func82 (by kernel_rfl) fun w' H => ⟨by rw [flag_t (by omega)], H.only⟩
    · replace c0 := of_decide_eq_false c0
      refine Hs.rung0 [2, 6] 300 (fun _ => by kernel_rfl) ?_
      refine Hs.bool 12 (decide (op ≥ 50)) (by kernel_rfl) (fun a1 => ?_) (fun a1 => ?_)
      · replace a1 := of_decide_eq_true a1
        refine Hs.rung0 [2, 6, 9] 300 (fun _ => by kernel_rfl) ?_
        refine Hs.bool 17 (decide (op ≤ 62)) (by kernel_rfl) (fun c1 => ?_) (fun c1 => ?_)
        · replace c1 := of_decide_eq_true c1
          refine Hs.rung0 [2, 6, 9, 14, 17, 22, 25] 300 (fun _ => by kernel_rfl) ?_
          exact Hs.ret (v := .bool true) Tryz.func82 (by kernel_rfl) fun w' H => ⟨by rw [flag_t (by omega)], H.only⟩
        · replace c1 := of_decide_eq_false c1
          refine Hs.rung0 [2, 6, 9, 14] 300 (fun _ => by kernel_rfl) ?_
          refine Hs.bool 20 (decide (op ≥ 70)) (by kernel_rfl) (fun a2 => ?_) (fun a2 => ?_)
          · replace a2 := of_decide_eq_true a2
            refine Hs.rung0 [2, 6, 9, 14, 17] 300 (fun _ => by kernel_rfl) ?_
            refine Hs.bool 25 (decide (op ≤ 75)) (by kernel_rfl) (fun c2 => ?_) (fun c2 => ?_)
            · replace c2 := of_decide_eq_true c2
              refine Hs.rung0 [2, 6, 9, 14, 17, 22, 25] 300 (fun _ => by kernel_rfl) ?_
              exact Hs.ret (v := .bool true) Tryz.func82 (by kernel_rfl) fun w' H => ⟨by rw [flag_t (by omega)], H.only⟩
            · replace c2 := of_decide_eq_false c2
              refine Hs.rung0 [2, 6, 9, 14, 17, 22] 300 (fun _ => by kernel_rfl) ?_
              refine Hs.bool 28 (decide (op ≥ 90)) (by kernel_rfl) (fun a3 => ?_) (fun a3 => ?_)
              · replace a3 := of_decide_eq_true a3
                refine Hs.rung0 [2, 6, 9, 14, 17, 22, 25] 300 (fun _ => by kernel_rfl) ?_
                exact Hs.ret (v := .bool (decide (op ≤ 93))) Tryz.func82 (by kernel_rfl) fun w' H => ⟨by
                  by_cases c : op ≤ 93
                  · rw [flag_t (by omega)]; simp [c]
                  · rw [flag_f (by omega)]; simp [c], H.only⟩
              · replace a3 := of_decide_eq_false a3
                refine Hs.rung0 [2, 6, 9, 14, 17, 22, 25] 300 (fun _ => by kernel_rfl) ?_
                exact Hs.ret (v := .bool false) Tryz.func82 (by kernel_rfl) fun w' H => ⟨by rw [flag_f (by omega)], H.only⟩
          · replace a2 := of_decide_eq_false a2
            refine Hs.rung0 [2, 6, 9, 14, 17, 22] 300 (fun _ => by kernel_rfl) ?_
            refine Hs.bool 28 (decide (op ≥ 90)) (by kernel_rfl) (fun a3 => ?_) (fun a3 => ?_)
            · replace a3 := of_decide_eq_true a3
              refine Hs.rung0 [2, 6, 9, 14, 17, 22, 25] 300 (fun _ => by kernel_rfl) ?_
              exact Hs.ret (v := .bool (decide (op ≤ 93))) Tryz.func82 (by kernel_rfl) fun w' H => ⟨by
                by_cases c : op ≤ 93
                · rw [flag_t (by omega)]; simp [c]
                · rw [flag_f (by omega)]; simp [c], H.only⟩
            · replace a3 := of_decide_eq_false a3
              refine Hs.rung0 [2, 6, 9, 14, 17, 22, 25] 300 (fun _ => by kernel_rfl) ?_
              exact Hs.ret (v := .bool false) Tryz.func82 (by kernel_rfl) fun w' H => ⟨by rw [flag_f (by omega)], H.only⟩
      · replace a1 := of_decide_eq_false a1
        refine Hs.rung0 [2, 6, 9, 14] 300 (fun _ => by kernel_rfl) ?_
        refine Hs.bool 20 (decide (op ≥ 70)) (by kernel_rfl) (fun a2 => ?_) (fun a2 => ?_)
        · replace a2 := of_decide_eq_true a2
          refine Hs.rung0 [2, 6, 9, 14, 17] 300 (fun _ => by kernel_rfl) ?_
          refine Hs.bool 25 (decide (op ≤ 75)) (by kernel_rfl) (fun c2 => ?_) (fun c2 => ?_)
          · replace c2 := of_decide_eq_true c2
            refine Hs.rung0 [2, 6, 9, 14, 17, 22, 25] 300 (fun _ => by kernel_rfl) ?_
            exact Hs.ret (v := .bool true) Tryz.func82 (by kernel_rfl) fun w' H => ⟨by rw [flag_t (by omega)], H.only⟩
          · replace c2 := of_decide_eq_false c2
            refine Hs.rung0 [2, 6, 9, 14, 17, 22] 300 (fun _ => by kernel_rfl) ?_
            refine Hs.bool 28 (decide (op ≥ 90)) (by kernel_rfl) (fun a3 => ?_) (fun a3 => ?_)
            · replace a3 := of_decide_eq_true a3
              refine Hs.rung0 [2, 6, 9, 14, 17, 22, 25] 300 (fun _ => by kernel_rfl) ?_
              exact Hs.ret (v := .bool (decide (op ≤ 93))) Tryz.func82 (by kernel_rfl) fun w' H => ⟨by
                by_cases c : op ≤ 93
                · rw [flag_t (by omega)]; simp [c]
                · rw [flag_f (by omega)]; simp [c], H.only⟩
            · replace a3 := of_decide_eq_false a3
              refine Hs.rung0 [2, 6, 9, 14, 17, 22, 25] 300 (fun _ => by kernel_rfl) ?_
              exact Hs.ret (v := .bool false) Tryz.func82 (by kernel_rfl) fun w' H => ⟨by rw [flag_f (by omega)], H.only⟩
        · replace a2 := of_decide_eq_false a2
          refine Hs.rung0 [2, 6, 9, 14, 17, 22] 300 (fun _ => by kernel_rfl) ?_
          refine Hs.bool 28 (decide (op ≥ 90)) (by kernel_rfl) (fun a3 => ?_) (fun a3 => ?_)
          · replace a3 := of_decide_eq_true a3
            refine Hs.rung0 [2, 6, 9, 14, 17, 22, 25] 300 (fun _ => by kernel_rfl) ?_
            exact Hs.ret (v := .bool (decide (op ≤ 93))) Tryz.func82 (by kernel_rfl) fun w' H => ⟨by
              by_cases c : op ≤ 93
              · rw [flag_t (by omega)]; simp [c]
              · rw [flag_f (by omega)]; simp [c], H.only⟩
          · replace a3 := of_decide_eq_false a3
            refine Hs.rung0 [2, 6, 9, 14, 17, 22, 25] 300 (fun _ => by kernel_rfl) ?_
            exact Hs.ret (v := .bool false) Tryz.func82 (by kernel_rfl) fun w' H => ⟨by rw [flag_f (by omega)], H.only⟩
  · replace a0 := of_decide_eq_false a0
    refine Hs.rung0 [2, 6] 300 (fun _ => by kernel_rfl) ?_
    refine Hs.bool 12 (decide (op ≥ 50)) (by kernel_rfl) (fun a1 => ?_) (fun a1 => ?_)
    · replace a1 := of_decide_eq_true a1
      refine Hs.rung0 [2, 6, 9] 300 (fun _ => by kernel_rfl) ?_
      refine Hs.bool 17 (decide (op ≤ 62)) (by kernel_rfl) (fun c1 => ?_) (fun c1 => ?_)
      · replace c1 := of_decide_eq_true c1
        refine Hs.rung0 [2, 6, 9, 14, 17, 22, 25] 300 (fun _ => by kernel_rfl) ?_
        exact Hs.ret (v := .bool true) Tryz.func82 (by kernel_rfl) fun w' H => ⟨by rw [flag_t (by omega)], H.only⟩
      · replace c1 := of_decide_eq_false c1
        refine Hs.rung0 [2, 6, 9, 14] 300 (fun _ => by kernel_rfl) ?_
        refine Hs.bool 20 (decide (op ≥ 70)) (by kernel_rfl) (fun a2 => ?_) (fun a2 => ?_)
        · replace a2 := of_decide_eq_true a2
          refine Hs.rung0 [2, 6, 9, 14, 17] 300 (fun _ => by kernel_rfl) ?_
          refine Hs.bool 25 (decide (op ≤ 75)) (by kernel_rfl) (fun c2 => ?_) (fun c2 => ?_)
          · replace c2 := of_decide_eq_true c2
            refine Hs.rung0 [2, 6, 9, 14, 17, 22, 25] 300 (fun _ => by kernel_rfl) ?_
            exact Hs.ret (v := .bool true) Tryz.func82 (by kernel_rfl) fun w' H => ⟨by rw [flag_t (by omega)], H.only⟩
          · replace c2 := of_decide_eq_false c2
            refine Hs.rung0 [2, 6, 9, 14, 17, 22] 300 (fun _ => by kernel_rfl) ?_
            refine Hs.bool 28 (decide (op ≥ 90)) (by kernel_rfl) (fun a3 => ?_) (fun a3 => ?_)
            · replace a3 := of_decide_eq_true a3
              refine Hs.rung0 [2, 6, 9, 14, 17, 22, 25] 300 (fun _ => by kernel_rfl) ?_
              exact Hs.ret (v := .bool (decide (op ≤ 93))) Tryz.func82 (by kernel_rfl) fun w' H => ⟨by
                by_cases c : op ≤ 93
                · rw [flag_t (by omega)]; simp [c]
                · rw [flag_f (by omega)]; simp [c], H.only⟩
            · replace a3 := of_decide_eq_false a3
              refine Hs.rung0 [2, 6, 9, 14, 17, 22, 25] 300 (fun _ => by kernel_rfl) ?_
              exact Hs.ret (v := .bool false) Tryz.func82 (by kernel_rfl) fun w' H => ⟨by rw [flag_f (by omega)], H.only⟩
        · replace a2 := of_decide_eq_false a2
          refine Hs.rung0 [2, 6, 9, 14, 17, 22] 300 (fun _ => by kernel_rfl) ?_
          refine Hs.bool 28 (decide (op ≥ 90)) (by kernel_rfl) (fun a3 => ?_) (fun a3 => ?_)
          · replace a3 := of_decide_eq_true a3
            refine Hs.rung0 [2, 6, 9, 14, 17, 22, 25] 300 (fun _ => by kernel_rfl) ?_
            exact Hs.ret (v := .bool (decide (op ≤ 93))) Tryz.func82 (by kernel_rfl) fun w' H => ⟨by
              by_cases c : op ≤ 93
              · rw [flag_t (by omega)]; simp [c]
              · rw [flag_f (by omega)]; simp [c], H.only⟩
          · replace a3 := of_decide_eq_false a3
            refine Hs.rung0 [2, 6, 9, 14, 17, 22, 25] 300 (fun _ => by kernel_rfl) ?_
            exact Hs.ret (v := .bool false) Tryz.func82 (by kernel_rfl) fun w' H => ⟨by rw [flag_f (by omega)], H.only⟩
    · replace a1 := of_decide_eq_false a1
      refine Hs.rung0 [2, 6, 9, 14] 300 (fun _ => by kernel_rfl) ?_
      refine Hs.bool 20 (decide (op ≥ 70)) (by kernel_rfl) (fun a2 => ?_) (fun a2 => ?_)
      · replace a2 := of_decide_eq_true a2
        refine Hs.rung0 [2, 6, 9, 14, 17] 300 (fun _ => by kernel_rfl) ?_
        refine Hs.bool 25 (decide (op ≤ 75)) (by kernel_rfl) (fun c2 => ?_) (fun c2 => ?_)
        · replace c2 := of_decide_eq_true c2
          refine Hs.rung0 [2, 6, 9, 14, 17, 22, 25] 300 (fun _ => by kernel_rfl) ?_
          exact Hs.ret (v := .bool true) Tryz.func82 (by kernel_rfl) fun w' H => ⟨by rw [flag_t (by omega)], H.only⟩
        · replace c2 := of_decide_eq_false c2
          refine Hs.rung0 [2, 6, 9, 14, 17, 22] 300 (fun _ => by kernel_rfl) ?_
          refine Hs.bool 28 (decide (op ≥ 90)) (by kernel_rfl) (fun a3 => ?_) (fun a3 => ?_)
          · replace a3 := of_decide_eq_true a3
            refine Hs.rung0 [2, 6, 9, 14, 17, 22, 25] 300 (fun _ => by kernel_rfl) ?_
            exact Hs.ret (v := .bool (decide (op ≤ 93))) Tryz.func82 (by kernel_rfl) fun w' H => ⟨by
              by_cases c : op ≤ 93
              · rw [flag_t (by omega)]; simp [c]
              · rw [flag_f (by omega)]; simp [c], H.only⟩
          · replace a3 := of_decide_eq_false a3
            refine Hs.rung0 [2, 6, 9, 14, 17, 22, 25] 300 (fun _ => by kernel_rfl) ?_
            exact Hs.ret (v := .bool false) Tryz.func82 (by kernel_rfl) fun w' H => ⟨by rw [flag_f (by omega)], H.only⟩
      · replace a2 := of_decide_eq_false a2
        refine Hs.rung0 [2, 6, 9, 14, 17, 22] 300 (fun _ => by kernel_rfl) ?_
        refine Hs.bool 28 (decide (op ≥ 90)) (by kernel_rfl) (fun a3 => ?_) (fun a3 => ?_)
        · replace a3 := of_decide_eq_true a3
          refine Hs.rung0 [2, 6, 9, 14, 17, 22, 25] 300 (fun _ => by kernel_rfl) ?_
          exact Hs.ret (v := .bool (decide (op ≤ 93))) Tryz.func82 (by kernel_rfl) fun w' H => ⟨by
            by_cases c : op ≤ 93
            · rw [flag_t (by omega)]; simp [c]
            · rw [flag_f (by omega)]; simp [c], H.only⟩
        · replace a3 := of_decide_eq_false a3
          refine Hs.rung0 [2, 6, 9, 14, 17, 22, 25] 300 (fun _ => by kernel_rfl) ?_
          exact Hs.ret (v := .bool false) Tryz.func82 (by kernel_rfl) fun w' H => ⟨by rw [flag_f (by omega)], H.only⟩
end Go.Proofs.YtmmcamkmglpgiaaGreatDoor

namespace Go.Proofs.YtmmcamkmglpgiaaGreatDoor
set_option linter.all false
set_option maxRecDepth 100000
open Go.RowKit

/-- Whatever stays with all of L, of which all of G are, stays with them anew. -/
def TurnsL (w w' : World) (G : List Nat) (Q Q' : World → Prop) : Prop := ∀ L : List Nat, (∀ x ∈ L, x < w.heap.size) → (∀ x ∈ G, x ∈ L) → Keeps w L Q → Keeps w' L Q'
section
variable {w w0 w1 w2 w' : World} {L L1 L' β G : List Nat} {hp : List HB} {g p : Nat} {Q Q' Q'' F D0 D1 D2 : World → Prop}
theorem TurnsL.of (h : Turns w w' g Q Q') (hg : g ∈ G) : TurnsL w w' G Q Q' := fun L hL hG hk => h L hL (hG g hg) hk
theorem TurnsL.same (O : Only G w w') : TurnsL w w' G Q Q := fun L _ hg h => h.go (O.mono hg)
theorem TurnsL.trans (O : Only G w w1) (h : TurnsL w w1 G Q Q') (h' : TurnsL w1 w2 G Q' Q'') : TurnsL w w2 G Q Q'' := fun L hL hg hk => h' L (fun x hx => Nat.lt_of_lt_of_le (hL x hx) O.size) hg (h L hL hg hk)
theorem TurnsL.imp (h : TurnsL w w' G Q Q') (f : ∀ w, Q' w → Q'' w) : TurnsL w w' G Q Q'' := fun L hL hg hk => (h L hL hg hk).imp f
theorem TurnsL.andR (O : Only G w w') (h : TurnsL w w' G Q Q') : TurnsL w w' G (fun w => Q w ∧ F w) (fun w => Q' w ∧ F w) := fun L hL hg hk =>
  (h L hL hg (hk.imp fun _ h => h.1)).and ((hk.imp fun _ h => h.2).go (O.mono hg))
/-- A call that turns G, at a later world of it; what is known of the rest. -/
structure Gx (w : World) (G : List Nat) (D0 : World → Prop) (w1 : World) (L1 : List Nat) (D1 : World → Prop) : Prop where
  back : Back w G w1 L1
  mem : ∀ x ∈ L1, x ∈ G ∨ w.heap.size ≤ x
  has : ∀ x ∈ G, x ∈ L1
  size : w.heap.size ≤ w1.heap.size
  old : ∀ x ∈ G, x < w.heap.size
  k0 : Keeps w G D0
  keep : ∀ L : List Nat, (∀ x ∈ L, x < w.heap.size) → (∀ x ∈ G, x ∈ L) → Keeps w L D0 → Keeps w1 (L ++ L1) D1
theorem Gx.start (hk : Keeps w G D0) (hg : ∀ x ∈ G, x < w.heap.size) : Gx w G D0 w G D0 :=
  ⟨Back.refl, fun x hx => .inl hx, fun x hx => hx, Nat.le_refl _, hg, hk, fun L _ hg hk => hk.mono fun x hx => by
    rcases List.mem_append.1 hx with h | h
    · exact h
    · exact hg x h⟩
theorem Gx.keeps (C : Gx w G D0 w1 L1 D1) : Keeps w1 L1 D1 := (C.keep G C.old (fun _ h => h) C.k0).mono fun x hx => by simp [hx]
theorem Gx.now (C : Gx w G D0 w1 L1 D1) (H : Mem w1 L1 β hp w') : D1 w' := C.keeps.now H
theorem Gx.keepsAt (C : Gx w G D0 w1 L1 D1) (H : Mem w1 L1 β hp w') (hL : ∀ x ∈ L', x ∈ L1 ∨ w1.heap.size ≤ x) : Keeps w' L' D1 := C.keeps.goN H.only (fun x hx => .inl hx) hL
theorem Gx.imp (C : Gx w G D0 w1 L1 D1) (f : ∀ w, D1 w → D2 w) : Gx w G D0 w1 L1 D2 := ⟨C.back, C.mem, C.has, C.size, C.old, C.k0, fun L hL hg hk => (C.keep L hL hg hk).imp f⟩
theorem Gx.only (C : Gx w G D0 w1 L1 D1) (H : Mem w1 L1 β hp w') : Only G w w' := C.back w' H.only
theorem Gx.turns (C : Gx w G D0 w1 L1 D1) (H : Mem w1 L1 β hp w') : TurnsL w w' G D0 D1 := fun L hL hg hk =>
  (C.keep L hL hg hk).goN H.only (fun x hx => .inl (by simp [hx])) (fun x hx => .inl (by simp [hx]))
theorem Gx.move {G' : List Nat} (C : Gx w G D0 w1 L1 D1) (H : Mem w1 L1 β hp w2) (O : Only G' w2 w') (T : TurnsL w2 w' G' D1 D2) (hgm : ∀ x ∈ G', x ∈ wrN β hp) (hGm : ∀ x ∈ G, x ∈ wrN β hp) : Gx w G D0 w' (wrN β hp) D2 := by
  have hO := H.only
  have key := Nx.key H
  refine ⟨fun w3 O3 => C.back w3 ?_, fun x hx => ?_, hGm, Nat.le_trans C.size (Nat.le_trans hO.size O.size), C.old, C.k0, fun L hL hg hk => ?_⟩
  · exact (hO.trans O (fun x hx => key x (hgm x hx))).trans O3 key
  · rcases key x hx with h | h
    · exact C.mem x h
    · exact .inr (by have := C.size; omega)
  · have h1 := C.keep L hL hg hk
    have h2 : Keeps w2 (L ++ wrN β hp) D1 := h1.goN hO (fun x hx => .inl (by simp [hx])) (fun x hx => by
      rcases List.mem_append.1 hx with h | h
      · exact .inl (by simp [h])
      · rcases key x h with h | h
        · exact .inl (by simp [h])
        · exact .inr h)
    refine T _ (fun x hx => ?_) (fun x hx => by simp [hgm x hx]) h2
    rcases List.mem_append.1 hx with h | h
    · have := hL x h; have := C.size; have := hO.size; omega
    · exact H.wrN_lt x h
theorem Nx.moveG {G' : List Nat} (C : Nx w w1 L1 D1) (H : Mem w1 L1 β hp w2) (O : Only G' w2 w') (T : TurnsL w2 w' G' D1 D2) (hg : ∀ x ∈ G', x ∈ wrN β hp) : Nx w w' (wrN β hp) D2 := by
  have hO := H.only
  have key := Nx.key H
  refine ⟨fun w3 O3 => C.back w3 ?_, fun x hx => ?_, Nat.le_trans C.size (Nat.le_trans hO.size O.size), fun L hL => ?_⟩
  · exact (hO.trans O (fun x hx => key x (hg x hx))).trans O3 key
  · rcases key x hx with h | h
    · exact C.mem x h
    · have := C.size; omega
  · refine T _ (fun x hx => ?_) (fun x hx => by simp [hg x hx]) ?_
    · rcases List.mem_append.1 hx with h | h
      · have := hL x h; have := C.size; have := hO.size; omega
      · exact H.wrN_lt x h
    · exact (C.keep L hL).goN hO (fun x hx => .inl (by simp [hx])) (fun x hx => by
        rcases List.mem_append.1 hx with h | h
        · exact .inl (by simp [h])
        · rcases key x h with h | h
          · exact .inl (by simp [h])
          · exact .inr h)
/-- Two blocks turn. -/
theorem Mem.put2 {k1 k2 T1 T2 : Nat} {c1 c2 c1' c2' : List SC} (H : Mem w0 L β hp w) (h1 : hp[k1]? = some (.b true T1 c1)) (h2 : hp[k2]? = some (.b true T2 c2)) (hne : k1 ≠ k2) (O : Only [nm β k1, nm β k2] w w') (B1 : Blk w' (nm β k1) T1 (dens β c1')) (B2 : Blk w' (nm β k2) T2 (dens β c2')) : Mem w0 L β ((hp.set k1 (.b true T1 c1')).set k2 (.b true T2 c2')) w' := by
  refine H.turn O (fun x hx => ?_) (by simp) fun j h' hj => ?_
  · simp only [List.mem_cons, List.not_mem_nil, or_false] at hx
    rcases hx with rfl | rfl
    · exact H.own k1 _ _ h1 rfl rfl
    · exact H.own k2 _ _ h2 rfl rfl
  · by_cases e2 : k2 = j
    · subst e2
      have hl : k2 < hp.length := (List.getElem?_eq_some_iff.1 h2).1
      rw [List.getElem?_set_self (by simpa using hl)] at hj
      injection hj with hj
      subst hj
      exact .inr (.inr ⟨_, h2, rfl, rfl, B2⟩)
    · rw [List.getElem?_set_ne e2] at hj
      by_cases e1 : k1 = j
      · subst e1
        have hl : k1 < hp.length := (List.getElem?_eq_some_iff.1 h1).1
        rw [List.getElem?_set_self hl] at hj
        injection hj with hj
        subst hj
        exact .inr (.inr ⟨_, h1, rfl, rfl, B1⟩)
      · rw [List.getElem?_set_ne e1] at hj
        refine .inr (.inl ⟨hj, fun x hx hm => ?_⟩)
        simp only [List.mem_cons, List.not_mem_nil, or_false] at hm
        rcases hm with rfl | rfl
        · exact e1 (H.inj k1 j _ _ _ h1 hj rfl hx)
        · exact e2 (H.inj k2 j _ _ _ h2 hj rfl hx)
end
section
variable {P : Program} {f : FR} {R : Ending → World → Prop} {n : Nat} {w0 w00 : World} {L G : List Nat} {β : List Nat} {m : SM} {D0 D1 : World → Prop}
/-- A block's cells, written otherwise. -/
theorem Hs.reb (k : Nat) {T : TypeId} {cs : List SC} (cs' : List SC) (hk : m.hp[k]? = some (.b true T cs)) (hd : dens β cs = dens β cs') (hwf : cs'.all (SC.wf m.hp.length) = true) (hr : (match m.r with | .no => true | .lst .. => true | .lstN .. => true | _ => false) = true) (h : Hs P f R n w0 L β ⟨m.r, m.todo, m.sl, m.hp.set k (.b true T cs')⟩) : Hs P f R n w0 L β m := by
  refine ⟨fun w H W => ?_⟩
  have hl : k < m.hp.length := (List.getElem?_eq_some_iff.1 hk).1
  have H' : Mem w0 L β (m.hp.set k (.b true T cs')) w := H.turn (Only.refl [] w) (by simp) (by simp) fun j h' hj => by
    by_cases e : k = j
    · subst e
      rw [List.getElem?_set_self hl] at hj
      injection hj with hj
      subst hj
      refine .inr (.inr ⟨_, hk, rfl, rfl, ?_⟩)
      have := H.at k hk
      rw [hd] at this
      exact this
    · rw [List.getElem?_set_ne e] at hj
      exact .inr (.inl ⟨hj, by simp⟩)
  have g2 := h.go w H' (by
    simp only [SM.wf, Bool.and_eq_true] at W ⊢
    rw [List.length_set]
    refine ⟨W.1, List.all_eq_true.2 fun y hy => ?_⟩
    rcases List.mem_or_eq_of_mem_set hy with hy | rfl
    · exact List.all_eq_true.1 W.2 y hy
    · exact hwf)
  obtain ⟨r, todo, sl, hp⟩ := m
  cases r with
  | no => exact g2
  | lst => exact g2
  | lstN => exact g2
  | _ => cases hr
/-- A call that turns one block of ours. -/
theorem Hs.call1 {X : Type} (k : Nat) {g : Nat} {T : TypeId} {cs0 : List SC} (v : X → Value) (cs : X → List SC) {Fn : FuncId} {args : Array Value} (Q : X → World → World → Prop)
    (hβ : β[k]? = some g) (hk : m.hp[k]? = some (.b true T cs0))
    (hC : ∀ w, Mem w0 L β m.hp w → Blk w g T (dens β cs0) → Calls P Fn args w fun e w' => ∃ x, e = .returned (v x) ∧ Only [g] w w' ∧ Blk w' g T (dens β (cs x)) ∧ Q x w w')
    (hc : callOf P n β m = some (Fn, args)) (hrd : rdOf m = []) (hwf : ∀ x, (cs x).all (SC.wf m.hp.length) = true)
    (h : ∀ x w w', Mem w0 L β m.hp w → Only [g] w w' → Q x w w' → Hs P f R n w' (wrN β m.hp) β (m.put (dstOf m) (.c (.v (v x))) (m.hp.set k (.b true T (cs x))))) : Hs P f R n w0 L β m := by
  have hnm := nm_get hβ
  refine ⟨fun w H W => ?_⟩
  unfold callOf at hc
  split at hc
  · rename_i o ho
    split at hc
    · rename_i hg
      split at hc
      · rename_i F' args' hp
        injection hc with hc
        injection hc with h1 h2
        subst h1; subst h2
        have hd : dstOf m = o.dst := by unfold dstOf; rw [ho]
        rw [hd] at h
        refine Gs.op ho hg ?_
        unfold Oper.wp
        rw [fr_eval, pureOut_run P _ _ hp w]
        refine Calls.mono (hC w H (by have := H.at k hk; rw [hnm] at this; exact this)) ?_
        rintro e w' ⟨x, rfl, O, hB, hT⟩
        have H' := H.put hk (by rw [hnm]; exact O) (by rw [hnm]; exact hB : Blk w' (nm β k) T (dens β (cs x)))
        have hwr : wrN β (m.hp.set k (.b true T (cs x))) = wrN β m.hp := wrN_set (h := .b true T cs0) (h' := .b true T (cs x)) rfl (fun _ => rfl) hk
        have g2 := h x w w' H O hT
        rw [← hwr] at g2
        refine ⟨β, putS o.dst (.c (.v (v x))) m.sl, m.hp.set k (.b true T (cs x)), fr_put n β m.sl o.dst (.c (.v (v x))), fun w2 hI => ?_, g2.go w' H'.rebase ?_⟩
        · rw [hrd]; intro i hi; cases hi
        · simp only [SM.wf, SM.put, Bool.and_eq_true]
          refine ⟨?_, ?_⟩
          · rw [List.length_set]; exact putS_wf (SM.wf_sl W) rfl
          · rw [List.length_set]
            refine List.all_eq_true.2 fun y hy => ?_
            rcases List.mem_or_eq_of_mem_set hy with hy | rfl
            · exact List.all_eq_true.1 (SM.wf_hp W) y hy
            · exact hwf x
      · cases hc
    · cases hc
  · cases hc
/-- A call that turns two blocks of ours. -/
theorem Hs.call2 {X : Type} (k1 k2 : Nat) {p g : Nat} {T1 T2 : TypeId} {c1 c2 : List SC} (v : X → Value) (cs1 cs2 : X → List SC) {Fn : FuncId} {args : Array Value} (Q : X → World → World → Prop)
    (hb1 : β[k1]? = some p) (hb2 : β[k2]? = some g) (hk1 : m.hp[k1]? = some (.b true T1 c1)) (hk2 : m.hp[k2]? = some (.b true T2 c2)) (hne : k1 ≠ k2)
    (hC : ∀ w, Mem w0 L β m.hp w → Blk w p T1 (dens β c1) → Blk w g T2 (dens β c2) → Calls P Fn args w fun e w' => ∃ x, e = .returned (v x) ∧ Only [p, g] w w' ∧ Blk w' p T1 (dens β (cs1 x)) ∧ Blk w' g T2 (dens β (cs2 x)) ∧ Q x w w')
    (hc : callOf P n β m = some (Fn, args)) (hrd : rdOf m = []) (hwf : ∀ x, (cs1 x).all (SC.wf m.hp.length) = true ∧ (cs2 x).all (SC.wf m.hp.length) = true)
    (h : ∀ x w w', Mem w0 L β m.hp w → Only [p, g] w w' → Q x w w' → Hs P f R n w' (wrN β m.hp) β (m.put (dstOf m) (.c (.v (v x))) ((m.hp.set k1 (.b true T1 (cs1 x))).set k2 (.b true T2 (cs2 x))))) : Hs P f R n w0 L β m := by
  have hn1 := nm_get hb1
  have hn2 := nm_get hb2
  refine ⟨fun w H W => ?_⟩
  unfold callOf at hc
  split at hc
  · rename_i o ho
    split at hc
    · rename_i hg
      split at hc
      · rename_i F' args' hp
        injection hc with hc
        injection hc with h1 h2
        subst h1; subst h2
        have hd : dstOf m = o.dst := by unfold dstOf; rw [ho]
        rw [hd] at h
        refine Gs.op ho hg ?_
        unfold Oper.wp
        rw [fr_eval, pureOut_run P _ _ hp w]
        refine Calls.mono (hC w H (by have := H.at k1 hk1; rw [hn1] at this; exact this) (by have := H.at k2 hk2; rw [hn2] at this; exact this)) ?_
        rintro e w' ⟨x, rfl, O, hB1, hB2, hT⟩
        have H' := H.put2 hk1 hk2 hne (by rw [hn1, hn2]; exact O) (by rw [hn1]; exact hB1 : Blk w' (nm β k1) T1 (dens β (cs1 x))) (by rw [hn2]; exact hB2 : Blk w' (nm β k2) T2 (dens β (cs2 x)))
        have hwr : wrN β ((m.hp.set k1 (.b true T1 (cs1 x))).set k2 (.b true T2 (cs2 x))) = wrN β m.hp :=
          (wrN_set (h := .b true T2 c2) (h' := .b true T2 (cs2 x)) rfl (fun _ => rfl) (by rw [List.getElem?_set_ne hne]; exact hk2)).trans (wrN_set (h := .b true T1 c1) (h' := .b true T1 (cs1 x)) rfl (fun _ => rfl) hk1)
        have g2 := h x w w' H O hT
        rw [← hwr] at g2
        refine ⟨β, putS o.dst (.c (.v (v x))) m.sl, (m.hp.set k1 (.b true T1 (cs1 x))).set k2 (.b true T2 (cs2 x)), fr_put n β m.sl o.dst (.c (.v (v x))), fun w2 hI => ?_, g2.go w' H'.rebase ?_⟩
        · rw [hrd]; intro i hi; cases hi
        · simp only [SM.wf, SM.put, Bool.and_eq_true]
          rw [List.length_set, List.length_set]
          refine ⟨putS_wf (SM.wf_sl W) rfl, List.all_eq_true.2 fun y hy => ?_⟩
          rcases List.mem_or_eq_of_mem_set hy with hy | rfl
          · rcases List.mem_or_eq_of_mem_set hy with hy | rfl
            · exact List.all_eq_true.1 (SM.wf_hp W) y hy
            · exact (hwf x).1
          · exact (hwf x).2
      · cases hc
    · cases hc
  · cases hc
/-- A method that turns one block of ours, in a function that is given several. -/
theorem Hs.callG {X : Type} (k : Nat) {g : Nat} {T : TypeId} {cs0 : List SC} (v : X → Value) (cs : X → List SC) {A F : World → Prop} (A' : X → World → Prop) {Fn : FuncId} {args : Array Value}
    (C : Gx w00 G D0 w0 L (fun w => A w ∧ F w)) (hG : ∀ x ∈ G, x ∈ wrN β m.hp) (hβ : β[k]? = some g) (hk : m.hp[k]? = some (.b true T cs0))
    (hC : ∀ w, Mem w0 L β m.hp w → Blk w g T (dens β cs0) → Keeps w [g] A → Calls P Fn args w fun e w' => ∃ x, e = .returned (v x) ∧ Only [g] w w' ∧ Blk w' g T (dens β (cs x)) ∧ Turns w w' g A (A' x))
    (hc : callOf P n β m = some (Fn, args)) (hrd : rdOf m = []) (hwf : ∀ x, (cs x).all (SC.wf m.hp.length) = true)
    (h : ∀ x w1 L1, Gx w00 G D0 w1 L1 (fun w => A' x w ∧ F w) → Hs P f R n w1 L1 β (m.put (dstOf m) (.c (.v (v x))) (m.hp.set k (.b true T (cs x))))) : Hs P f R n w0 L β m := by
  have hgm : g ∈ wrN β m.hp := wrN_mem.2 ⟨k, _, g, hk, hβ, rfl, rfl⟩
  refine Hs.call1 k v cs (fun x w w' => Turns w w' g A (A' x)) hβ hk (fun w H hB => hC w H hB ((C.keepsAt H fun x hx => by
    rw [List.mem_singleton.1 hx]
    exact Nx.key H g hgm).imp fun _ h => h.1)) hc hrd hwf fun x w w' H O T => ?_
  exact h x w' _ (C.move H O (TurnsL.of (Turns.andR O T) (by simp)) (fun x hx => by rw [List.mem_singleton.1 hx]; exact hgm) hG)
/-- A call that makes some thing that stays, in a function that is given several blocks. -/
theorem Hs.callGM {X : Type} {v : X → Value} {Q : X → World → Prop} {Fn : FuncId} {args : Array Value} (C : Gx w00 G D0 w0 L D1) (hG : ∀ x ∈ G, x ∈ wrN β m.hp) (hC : ∀ w, Mem w0 L β m.hp w → Calls P Fn args w (NewX w v Q)) (hc : callOf P n β m = some (Fn, args)) (hrd : rdOf m = [])
    (h : ∀ x w1 L1, Gx w00 G D0 w1 L1 (fun w => Q x w ∧ D1 w) → Hs P f R n w1 L1 β (m.put (dstOf m) (.c (.v (v x))) m.hp)) : Hs P f R n w0 L β m :=
  Hs.callE v (fun x w w' => ∀ L : List Nat, (∀ y ∈ L, y < w.heap.size) → Keeps w' L (Q x)) hC hc hrd fun x w w1 H O q B hL => h x w1 _ (C.move (G' := []) H O (fun L hL _ hk => (q L hL).and (hk.go (O.mono (by simp)))) (by simp) hG)
/-- A call of what turns two blocks, in a function that is given several. -/
theorem Hs.callG2 {X : Type} (k1 k2 : Nat) {p g : Nat} {T1 T2 : TypeId} {c1 c2 : List SC} (v : X → Value) (cs1 cs2 : X → List SC) {A F : World → Prop} (A' : X → World → Prop) {Fn : FuncId} {args : Array Value}
    (C : Gx w00 G D0 w0 L (fun w => A w ∧ F w)) (hG : ∀ x ∈ G, x ∈ wrN β m.hp) (hb1 : β[k1]? = some p) (hb2 : β[k2]? = some g) (hk1 : m.hp[k1]? = some (.b true T1 c1)) (hk2 : m.hp[k2]? = some (.b true T2 c2)) (hne : k1 ≠ k2)
    (hC : ∀ w, Mem w0 L β m.hp w → Blk w p T1 (dens β c1) → Blk w g T2 (dens β c2) → Keeps w [p, g] A → Calls P Fn args w fun e w' => ∃ x, e = .returned (v x) ∧ Only [p, g] w w' ∧ Blk w' p T1 (dens β (cs1 x)) ∧ Blk w' g T2 (dens β (cs2 x)) ∧ TurnsL w w' [p, g] A (A' x))
    (hc : callOf P n β m = some (Fn, args)) (hrd : rdOf m = []) (hwf : ∀ x, (cs1 x).all (SC.wf m.hp.length) = true ∧ (cs2 x).all (SC.wf m.hp.length) = true)
    (h : ∀ x w1 L1, Gx w00 G D0 w1 L1 (fun w => A' x w ∧ F w) → Hs P f R n w1 L1 β (m.put (dstOf m) (.c (.v (v x))) ((m.hp.set k1 (.b true T1 (cs1 x))).set k2 (.b true T2 (cs2 x))))) : Hs P f R n w0 L β m := by
  have hm : ∀ x ∈ [p, g], x ∈ wrN β m.hp := fun x hx => by
    simp only [List.mem_cons, List.not_mem_nil, or_false] at hx
    rcases hx with rfl | rfl
    · exact wrN_mem.2 ⟨k1, _, _, hk1, hb1, rfl, rfl⟩
    · exact wrN_mem.2 ⟨k2, _, _, hk2, hb2, rfl, rfl⟩
  refine Hs.call2 k1 k2 v cs1 cs2 (fun x w w' => TurnsL w w' [p, g] A (A' x)) hb1 hb2 hk1 hk2 hne (fun w H B1 B2 => hC w H B1 B2 ((C.keepsAt H fun x hx => Nx.key H x (hm x hx)).imp fun _ h => h.1)) hc hrd hwf fun x w w' H O T => ?_
  exact h x w' _ (C.move H O (TurnsL.andR O T) hm hG)
/-- The same, where the blocks are our own. -/
theorem Hs.callN2 {X : Type} (k1 k2 : Nat) {p g : Nat} {T1 T2 : TypeId} {c1 c2 : List SC} (v : X → Value) (cs1 cs2 : X → List SC) {A F : World → Prop} (A' : X → World → Prop) {Fn : FuncId} {args : Array Value}
    (C : Nx w00 w0 L (fun w => A w ∧ F w)) (hb1 : β[k1]? = some p) (hb2 : β[k2]? = some g) (hk1 : m.hp[k1]? = some (.b true T1 c1)) (hk2 : m.hp[k2]? = some (.b true T2 c2)) (hne : k1 ≠ k2)
    (hC : ∀ w, Mem w0 L β m.hp w → Blk w p T1 (dens β c1) → Blk w g T2 (dens β c2) → Keeps w [p, g] A → Calls P Fn args w fun e w' => ∃ x, e = .returned (v x) ∧ Only [p, g] w w' ∧ Blk w' p T1 (dens β (cs1 x)) ∧ Blk w' g T2 (dens β (cs2 x)) ∧ TurnsL w w' [p, g] A (A' x))
    (hc : callOf P n β m = some (Fn, args)) (hrd : rdOf m = []) (hwf : ∀ x, (cs1 x).all (SC.wf m.hp.length) = true ∧ (cs2 x).all (SC.wf m.hp.length) = true)
    (h : ∀ x w1 L1, Nx w00 w1 L1 (fun w => A' x w ∧ F w) → Hs P f R n w1 L1 β (m.put (dstOf m) (.c (.v (v x))) ((m.hp.set k1 (.b true T1 (cs1 x))).set k2 (.b true T2 (cs2 x))))) : Hs P f R n w0 L β m := by
  have hm : ∀ x ∈ [p, g], x ∈ wrN β m.hp := fun x hx => by
    simp only [List.mem_cons, List.not_mem_nil, or_false] at hx
    rcases hx with rfl | rfl
    · exact wrN_mem.2 ⟨k1, _, _, hk1, hb1, rfl, rfl⟩
    · exact wrN_mem.2 ⟨k2, _, _, hk2, hb2, rfl, rfl⟩
  refine Hs.call2 k1 k2 v cs1 cs2 (fun x w w' => TurnsL w w' [p, g] A (A' x)) hb1 hb2 hk1 hk2 hne (fun w H B1 B2 => hC w H B1 B2 (((C.keeps.step H).mono fun x hx => hm x hx).imp fun _ h => h.1)) hc hrd hwf fun x w w' H O T => ?_
  exact h x w' _ (C.moveG H O (TurnsL.andR O T) hm)
end
/-- Two blocks that a function is given. -/
theorem Mem.two (w : World) (p g : Nat) {T1 T2 : Nat} {c1 c2 : List SC} (hne : p ≠ g) (h1 : Blk w p T1 (dens [p, g] c1)) (h2 : Blk w g T2 (dens [p, g] c2)) : Mem w [p, g] [p, g] [.b true T1 c1, .b true T2 c2] w :=
  Mem.start _ _ _ _ rfl (fun k h hk => by
    match k with
    | 0 => simp at hk; subst hk; exact h1
    | 1 => simp at hk; subst hk; exact h2
    | k + 2 => simp at hk) (fun k h x hk _ hx => by
    match k with
    | 0 => simp at hk; subst hk; simp only [HB.blk, Option.some.injEq] at hx; subst hx; simp [nm]
    | 1 => simp at hk; subst hk; simp only [HB.blk, Option.some.injEq] at hx; subst hx; simp [nm]
    | k + 2 => simp at hk) (fun i j hi hj x ei ej li lj => by
    match i, j with
    | 0, 0 => rfl
    | 1, 1 => rfl
    | 0, 1 =>
      simp at ei ej
      subst ei; subst ej
      simp [HB.blk, nm] at li lj
      exact absurd (li.trans lj.symm) hne
    | 1, 0 =>
      simp at ei ej
      subst ei; subst ej
      simp [HB.blk, nm] at li lj
      exact absurd (lj.trans li.symm) hne
    | i + 2, _ => simp at ei
    | _, j + 2 => simp at ej)
end Go.Proofs.YtmmcamkmglpgiaaGreatDoor

namespace Go.Proofs.YtmmcamkmglpgiaaGreatDoor
open Go.RowKit
set_option linter.all false
set_option maxRecDepth 100000
def piecesS (s : ByteArray) : List ByteArray := Lib.splitB ⟨#[32]⟩ 0 (Lib.countB s ⟨#[32]⟩) s
/-- A text cut at its blanks. -/
def cutS : List UInt8 → List (List UInt8)
  | [] => [[]]
  | c :: s => if c = 32 then [] :: cutS s else (c :: (cutS s).headD []) :: (cutS s).tail
theorem cutS_ne (s : List UInt8) : ∃ h t, cutS s = h :: t := by
  cases s with
  | nil => exact ⟨[], [], rfl⟩
  | cons c s =>
    unfold cutS
    split
    · exact ⟨_, _, rfl⟩
    · exact ⟨_, _, rfl⟩
theorem idx_consS (c : UInt8) (l : List UInt8) (h : c ≠ 32) : Lib.index (c :: l) [32] = if Lib.index l [32] == -1 then -1 else Lib.index l [32] + 1 := by
  have hp : ([32] : List UInt8).isPrefixOf (c :: l) = false := by simp [List.isPrefixOf, Ne.symm h]
  rw [Lib.index, hp]; simp
theorem splitK_cutS : ∀ s : List UInt8, Lib.splitK [32] 0 (Lib.count s [32]) s = cutS s
  | [] => by
    rw [Lib.count_miss (by simp [Lib.index])]
    rfl
  | c :: l => by
    have ih := splitK_cutS l
    by_cases h : c = 32
    · subst h
      rw [Lib.count_cons_eq, Nat.add_comm]
      have hix : Lib.index (32 :: l) [32] = 0 := by rw [Lib.index]; simp [List.isPrefixOf]
      unfold Lib.splitK cutS
      rw [hix]
      simp [ih]
    · rw [Lib.count_cons_ne c 32 l h]
      have hix := idx_consS c l h
      unfold cutS
      rw [if_neg h]
      by_cases hm : Lib.index l [32] = -1
      · rw [Lib.count_miss hm] at ih ⊢
        rw [← ih]
        rfl
      · have hge := Lib.index_ge l [32]
        obtain ⟨j, hj⟩ : ∃ j : Nat, Lib.index l [32] = j := ⟨(Lib.index l [32]).toNat, by omega⟩
        have hix' : Lib.index (c :: l) [32] = ((j + 1 : Nat) : Int) := by rw [hix, if_neg (fun e => hm (beq_iff_eq.1 e)), hj]; omega
        rw [Lib.count_hit (by simp) hj, Nat.add_comm 1] at ih ⊢
        rw [← ih]
        unfold Lib.splitK
        rw [hj, hix', if_neg (fun e => by have := beq_iff_eq.1 e; omega), if_neg (fun e => by have := beq_iff_eq.1 e; omega)]
        simp
theorem cutS_one {x : List UInt8} (h : ∀ c ∈ x, c ≠ 32) : cutS x = [x] := by
  induction x with
  | nil => rfl
  | cons c x ih =>
    unfold cutS
    rw [if_neg (h c (by simp)), ih (fun d hd => h d (by simp [hd]))]
    rfl
theorem cutS_app {x : List UInt8} (h : ∀ c ∈ x, c ≠ 32) (s : List UInt8) : cutS (x ++ 32 :: s) = x :: cutS s := by
  induction x with
  | nil =>
    rw [List.nil_append]
    conv => lhs; unfold cutS
    rw [if_pos rfl]
  | cons c x ih =>
    rw [List.cons_append]
    conv => lhs; unfold cutS
    rw [if_neg (h c (by simp)), ih (fun d hd => h d (by simp [hd]))]
    rfl
theorem cutS_len : ∀ (s : List UInt8), ∀ y ∈ cutS s, y.length ≤ s.length
  | [], y, h => by simp [cutS] at h; subst h; simp
  | c :: s, y, h => by
    unfold cutS at h
    obtain ⟨a, t, e⟩ := cutS_ne s
    have ih := cutS_len s
    rw [e] at ih h
    split at h
    · rcases List.mem_cons.1 h with rfl | h
      · simp
      · have := ih y h; simp; omega
    · rcases List.mem_cons.1 h with rfl | h
      · have := ih a (by simp); simpa using this
      · have := ih y (by simp at h ⊢; exact .inr h); simp; omega
theorem bytes_extS {x y : ByteArray} (h : x.data.toList = y.data.toList) : x = y := ByteArray.ext (Array.ext' h)
theorem piecesS_data (s : ByteArray) : (piecesS s).map (·.data.toList) = cutS s.data.toList := by
  unfold piecesS
  rw [Lib.splitB_data]
  exact splitK_cutS _
theorem piecesS_all (s : List UInt8) : piecesS (strL s) = (cutS s).map strL ∧ (cutS s).length = Lib.countB (strL s) ⟨#[32]⟩ + 1 := by
  have h1 := piecesS_data (strL s)
  have h2 : piecesS (strL s) = (cutS s).map strL := by
    have h3 := congrArg (List.map strL) h1
    rw [List.map_map] at h3
    have h4 : ∀ l : List ByteArray, l.map (strL ∘ fun x => x.data.toList) = l := fun l => by
      induction l with
      | nil => rfl
      | cons x l ih => rw [List.map_cons, ih]; rfl
    rw [h4] at h3
    exact h3
  refine ⟨h2, ?_⟩
  have h5 := (Lib.splitB_all ⟨#[32]⟩ (by decide) 0 _ (strL s) rfl)
  have h6 := congrArg List.length h2
  rw [List.length_map] at h6
  rw [← h6]
  exact h5
section
variable {P : Program} {f : FR} {R : Ending → World → Prop} {n : Nat} {w0 : World} {L : List Nat} {β : List Nat} {m : SM}
/-- A call that makes a block, known whole. -/
theorem Hs.callNB {F : FuncId} {args : Array Value} (T : TypeId) (vs : List Value) (res : SV) (hC : ∀ w, Mem w0 L β m.hp w → Calls P F args w fun e w' => ∃ b, e = .returned (res.den (β ++ [b])) ∧ Only [] w w' ∧ w.heap.size ≤ b ∧ Blk w' b T vs) (hc : callOf P n β m = some (F, args)) (hw : res.wf (m.hp.length + 1) = true) (hrd : (rdOf m).all (fun k => Nat.blt k m.hp.length) = true)
    (h : ∀ b, Hs P f R n w0 L (β ++ [b]) (m.put (dstOf m) res (m.hp ++ [.r true T vs]))) : Hs P f R n w0 L β m := by
  refine ⟨fun w H W => ?_⟩
  refine (Hs.call hc (fun w H => ?_)).go w H W
  refine Calls.mono (hC w H) ?_
  rintro e w' ⟨b, rfl, O, hb, hB⟩
  refine ⟨[b], res, m.hp ++ [.r true T vs], rfl, ?_, ?_, fun k hk x hx => ?_, h b⟩
  · refine H.push (h := .r true T vs) (by rw [H.len]; exact SM.wf_hp W) O (fun y hy => ?_) hB
    injection hy with hy; omega
  · simp only [List.length_append, List.length_cons, List.length_nil, Nat.zero_add, Bool.and_eq_true, Nat.ble_eq, List.all_append, List.all_cons, List.all_nil, Bool.and_true]
    refine ⟨hw, by omega, List.all_eq_true.2 fun y hy => ?_, rfl⟩
    have := List.all_eq_true.1 (SM.wf_hp W) y hy
    cases y with
    | b _ _ c => exact List.all_eq_true.2 fun z hz => SC.wf_mono (Nat.le_succ _) (List.all_eq_true.1 this z hz)
    | _ => rfl
  · have := List.all_eq_true.1 hrd k hk
    rw [List.getElem?_append_left (blt_spec.1 this)]
    exact hx
end
theorem split_any19 (s : List UInt8) (hs : s.length < 4294967281) (w : World) (hS : SLib w) : Calls Tryz.prog 57 #[.string (strL s), .string (strL [32])] w fun e w' => e = .returned (.slice (some ⟨w.heap.size, 0, none⟩) (cutS s).length (cutS s).length) ∧ w' = w.alloc (.cells ((cutS s).map fun x => Value.string (strL x)).toArray 9) := by
  obtain ⟨m, hm⟩ := hS.max
  obtain ⟨h1, h2⟩ := piecesS_all s
  refine (Tryz.strings_Split (strL s) (strL [32]) m w hs hm (by decide)).mono ?_
  rintro e w' ⟨rfl, rfl⟩
  have e1 : Lib.splitB (strL [32]) 0 (Lib.countB (strL s) (strL [32])) (strL s) = (cutS s).map strL := h1
  rw [e1, List.map_map]
  have e2 : Lib.countB (strL s) (strL [32]) + 1 = (cutS s).length := h2.symm
  rw [e2]
  exact ⟨rfl, rfl⟩
end Go.Proofs.YtmmcamkmglpgiaaGreatDoor

namespace Go.Proofs.YtmmcamkmglpgiaaGreatDoor
open Go.RowKit
set_option linter.all false
set_option maxRecDepth 100000
theorem wrap_nextK {i : Nat} (h : i < 9223372036854775807) : Value.int .i64 (IntKind.i64.wrap ((i : Int) + 1)) = (SV.c (.v (.int .i64 (i + 1 : Nat)))).den [] := by
  rw [IntWalk.i64_in _ (by omega)]; rfl
abbrev SoR := List UInt8 × Int × Value
def fn9 (f : FuncId) : Value := .func (.func f) #[] #[]
/-- The kinds: word, shape, what is asked. -/
def sortRows : List SoR := [([], 0, .nilFunc),
  ([101, 120, 105, 116], 1, fn9 65),
  ([111, 117, 116], 3, fn9 66),
  ([101, 114, 114], 3, fn9 66),
  ([105, 110], 1, fn9 67),
  ([102, 111, 114, 107], 1, fn9 68),
  ([101, 120, 101, 99], 1, fn9 68),
  ([119, 97, 105, 116], 1, fn9 69),
  ([107, 105, 108, 108], 2, fn9 70),
  ([103, 114, 111, 117, 112], 1, fn9 71),
  ([115, 101, 115, 115, 105, 111, 110], 0, fn9 72),
  ([102, 114, 111, 110, 116], 1, fn9 73),
  ([97, 99, 116], 2, fn9 74),
  ([109, 97, 115, 107], 2, fn9 75),
  ([115, 108, 101, 101, 112], 1, fn9 76),
  ([109, 111, 100, 101], 2, fn9 77),
  ([99, 111, 112, 121], 0, fn9 72)]
def cS (r : SoR) : List Value := [.string (strL r.1), .int .i64 r.2.1, r.2.2]
def SoR.sc (r : SoR) : List SC := [.v (.string (strL r.1)), .v (.int .i64 r.2.1), .v r.2.2]
theorem cS_len (r : SoR) : (cS r).length = 3 := rfl
def sortC : List Value := sortRows.flatMap cS
theorem sorts_any (w : World) : Calls Tryz.prog 43 #[] w fun e w' => e = .returned (.agg sortC.toArray) ∧ Only [] w w' := by
  refine Hs.enter Tryz.func43 [] [] [] [] (Mem.start0 w) (by kernel_rfl) (by kernel_rfl) ?_
  refine Hs.run1 300 (fun _ => by kernel_rfl) fun b0 => ?_
  exact Hs.ret (v := .agg sortC.toArray) Tryz.func43 (by kernel_rfl) fun w' H => ⟨rfl, H.only⟩
theorem op1_any (r : SoR) (x : List UInt8) (rest : List Value) (n c a : Nat) (hn : n = rest.length + 1) (hca : c ≠ a) (w : World) (hc : Blk w c 110 [.slice (some ⟨a, 0, none⟩) n n]) (ha : Blk w a 9 (.string (strL x) :: rest)) : Calls Tryz.prog 59 #[.agg (cS r).toArray, .pointer (some ⟨c, 0, none⟩)] w fun e w' => e = .returned (.bool (r.1 == x)) ∧ Only [] w w' := by
  subst hn
  have H0 : Mem w [] [c, a] [.b false 110 [.s 1 0 (rest.length + 1) (rest.length + 1)], .r false 9 (.string (strL x) :: rest)] w := Mem.startW [] rfl (by simp [bks, HB.blk, hca]) ⟨hc, ha, trivial⟩ (fun y hy => by simp [wrN, HB.wr] at hy)
  refine Hs.enter Tryz.func59 [] [c, a] _ [.g r.sc, .c (.p 0 0)] H0 (by kernel_rfl) (by kernel_rfl) ?_
  refine Hs.run1 300 (fun _ => by kernel_rfl) fun b2 => ?_
  refine Hs.any [0, 1, 2] (by kernel_rfl) ?_
  refine Hs.run0 300 (fun _ => by kernel_rfl) ?_
  refine Hs.slot 3 (.c (.v (.bool (r.1 == x)))) rfl ((by kernel_rfl : _ = Value.bool ((strL r.1).toList == (strL x).toList)).trans (by rw [str_cmp]; rfl)) ?_
  exact Hs.ret (v := .bool (r.1 == x)) Tryz.func59 (by kernel_rfl) fun w' H => ⟨rfl, H.only⟩
theorem elemSo : ElemT Tryz.prog 113 100 3 (Tryz.prog.bytesOf 100) := elemT_of (z := .agg #[.string ⟨#[]⟩, .int .i64 0, .nilFunc]) (by kernel_rfl) (by kernel_rfl) (by decide) (by decide)
/-- The first row of a word, from some on. -/
def ixF (x : List UInt8) : List SoR → Nat → Int
  | [], _ => -1
  | r :: l, i => match r.1 == x with
    | true => (i : Int)
    | false => ixF x l (i + 1)
def ixI (x : List UInt8) : Int := ixF x sortRows 0
set_option maxHeartbeats 1000000 in
theorem ixSort_any (x : List UInt8) (rest : List Value) (n c a b : Nat) (hn : n = rest.length + 1) (hca : c ≠ a) (w : World) (hc : Blk w c 110 [.slice (some ⟨a, 0, none⟩) n n]) (ha : Blk w a 9 (.string (strL x) :: rest)) (hb : Blk w b 101 sortC) : Calls Tryz.prog 58 #[.slice (some ⟨b, 0, none⟩) 17 17, .func (.func 59) #[] #[.pointer (some ⟨c, 0, none⟩)]] w fun e w' => e = .returned (.int .i64 (ixI x)) ∧ Only [] w w' := by
  have hrd : RdX cS w (some ⟨b, 0, none⟩) sortRows := fun _ => ⟨b, 0, rfl, hb.lt, fun j v hv => (hb.cell (0 + j)).trans (by rw [Nat.zero_add]; exact hv)⟩
  have J : ∀ (d i : Nat), 17 - i = d → i ≤ 17 → ixF x (sortRows.drop i) i = ixI x → ∀ (u : Nat → Value), Hs Tryz.prog 58 (fun e w' => e = .returned (.int .i64 (ixI x)) ∧ Only [] w w') (Tryz.f58).ntmps w [] [] ⟨.no, loopAt Tryz.f58 0, pins [(0, .c (.v (.slice (some ⟨b, 0, none⟩) 17 17))), (1, .c (.v (.func (.func 59) #[] #[.pointer (some ⟨c, 0, none⟩)]))), (4, .c (.v (.int .i64 0))), (7, .c (.v (.int .i64 17))), (8, .c (.v (.int .i64 i)))] (.vals u), []⟩ := by
    intro d
    induction d with
    | zero =>
      intro i hd hi hix u
      obtain rfl : i = 17 := by omega
      have e : ixI x = -1 := hix.symm
      refine Hs.run0 300 (fun _ => by kernel_rfl) ?_
      refine Hs.condF (by kernel_rfl) ?_
      refine Hs.run0 300 (fun _ => by kernel_rfl) ?_
      exact Hs.ret (v := .int .i64 (-1)) Tryz.func58 (by kernel_rfl) fun w' H => ⟨by rw [e], H.only⟩
    | succ d ih =>
      intro i hd hi hix u
      have hil : i < sortRows.length := by show i < 17; omega
      obtain ⟨r, hr⟩ : ∃ r, sortRows[i]? = some r := ⟨_, List.getElem?_eq_getElem hil⟩
      have hdr : sortRows.drop i = r :: sortRows.drop (i + 1) := by
        rw [List.drop_eq_getElem_cons hil]
        rw [List.getElem?_eq_getElem hil] at hr
        injection hr with hr
        rw [hr]
      rw [hdr] at hix
      unfold ixF at hix
      refine Hs.run0 300 (fun _ => by kernel_rfl) ?_
      refine Hs.condP ((i : Int) < (17 : Int)) (by kernel_rfl) (fun _ => ?_) (fun h => by omega)
      refine Hs.run0 300 (fun _ => by kernel_rfl) ?_
      refine Hs.idx (b := b) (off := 0) (len := 17) (c := 17) (i := i) elemSo (by omega) (by kernel_rfl) ?_
      refine Hs.ldx (cf := cS) (size := 3) (E := 100) (b := b) (off := 0) (i := i) (l := sortRows) (x := r) cS_len (.g r.sc) (by kernel_rfl) (fun w' H => hrd.only H.only) hr (by kernel_rfl) (by kernel_rfl) rfl (by kernel_rfl) ?_
      refine Hs.callV (v := .bool (r.1 == x)) (fun w' H => op1_any r x rest n c a hn hca w' (hc.only H.only (by simp)) (ha.only H.only (by simp))) (by kernel_rfl) ?_
      refine Hs.run0 300 (fun _ => by kernel_rfl) ?_
      refine Hs.cond (r.1 == x) (by kernel_rfl) (fun h => ?_) (fun h => ?_)
      · rw [h] at hix
        refine Hs.run0 300 (fun _ => by kernel_rfl) ?_
        exact Hs.ret (v := .int .i64 i) Tryz.func58 (by kernel_rfl) fun w' H => ⟨by rw [← hix], H.only⟩
      · rw [h] at hix
        refine Hs.run0 300 (fun _ => by kernel_rfl) ?_
        refine Hs.slot 8 (.c (.v (.int .i64 (i + 1 : Nat)))) rfl ((by kernel_rfl : _ = Value.int .i64 (IntKind.i64.wrap ((i : Int) + 1))).trans (wrap_nextK (by omega))) ?_
        refine Hs.loop (by kernel_rfl) ?_
        exact Hs.goto (loopAt Tryz.f58 0) [] [] [(0, .c (.v (.slice (some ⟨b, 0, none⟩) 17 17))), (1, .c (.v (.func (.func 59) #[] #[.pointer (some ⟨c, 0, none⟩)]))), (4, .c (.v (.int .i64 0))), (7, .c (.v (.int .i64 17))), (8, .c (.v (.int .i64 (i + 1 : Nat))))] (by kernel_rfl) (by decide) (by kernel_rfl) (by kernel_rfl) (fun _ => (by kernel_rfl)) (fun u => ih (i + 1) (by omega) (by omega) hix u)
  refine Hs.enter Tryz.func58 [] [] [] [.c (.v (.slice (some ⟨b, 0, none⟩) 17 17)), .c (.v (.func (.func 59) #[] #[.pointer (some ⟨c, 0, none⟩)]))] (Mem.start0 w) (by kernel_rfl) (by kernel_rfl) ?_
  refine Hs.run0 300 (fun _ => by kernel_rfl) ?_
  refine Hs.loop (by kernel_rfl) ?_
  exact Hs.goto (loopAt Tryz.f58 0) [] [] [(0, .c (.v (.slice (some ⟨b, 0, none⟩) 17 17))), (1, .c (.v (.func (.func 59) #[] #[.pointer (some ⟨c, 0, none⟩)]))), (4, .c (.v (.int .i64 0))), (7, .c (.v (.int .i64 17))), (8, .c (.v (.int .i64 (0 : Nat))))] (by kernel_rfl) (by decide) (by kernel_rfl) (by kernel_rfl) (fun _ => (by kernel_rfl)) (fun u => J 17 0 rfl (by omega) rfl u)
end Go.Proofs.YtmmcamkmglpgiaaGreatDoor
