/- Layer 8: settings: whether a flag is on, what a character is, a flag set; for all settings; no condition · Layer 27: how a client is told of an end; for all numbers; no condition · The document's signals; for all numbers; no condition · Layer 27: how a client is told of an end, by the document; for all ints; no condition · Layers 19, 27: a program found by its name; variables in new memory; for all programs and variables; no condition but their number. -/
import Derived.Test.YtdplnedpbkpgpaaGreatDoorSsC
import Derived.Laws.Concat
import Derived.Test.YtdplnedpbkpgpaaGreatDoorSsE
import Derived.Test.YtdplnedpbkpgpaaGreatDoorReqP
namespace Go.Proofs.YtdplnedpbkpgpaaGreatDoor
set_option linter.all false
set_option maxRecDepth 100000
open Go.RowKit

/-- A setting. -/
structure TM where
  ch : Nat → Int
  fl : Int
  inn : Int
  out : Int
  mn : Int
  tm : Int
def TM.sc (t : TM) : List SC := [.v (.int .u8 (t.ch 0)), .v (.int .u8 (t.ch 1)), .v (.int .u8 (t.ch 2)), .v (.int .u8 (t.ch 3)), .v (.int .u8 (t.ch 4)), .v (.int .u8 (t.ch 5)), .v (.int .u8 (t.ch 6)), .v (.int .u8 (t.ch 7)), .v (.int .u8 (t.ch 8)), .v (.int .u8 (t.ch 9)), .v (.int .u8 (t.ch 10)), .v (.int .u8 (t.ch 11)), .v (.int .u8 (t.ch 12)), .v (.int .u8 (t.ch 13)), .v (.int .u8 (t.ch 14)), .v (.int .u8 (t.ch 15)), .v (.int .u8 (t.ch 16)), .v (.int .u8 (t.ch 17)), .v (.int .u8 (t.ch 18)), .v (.int .u64 t.fl), .v (.int .u32 t.inn), .v (.int .u32 t.out), .v (.int .i64 t.mn), .v (.int .i64 t.tm)]
def TM.cells (t : TM) : List Value := [.int .u8 (t.ch 0), .int .u8 (t.ch 1), .int .u8 (t.ch 2), .int .u8 (t.ch 3), .int .u8 (t.ch 4), .int .u8 (t.ch 5), .int .u8 (t.ch 6), .int .u8 (t.ch 7), .int .u8 (t.ch 8), .int .u8 (t.ch 9), .int .u8 (t.ch 10), .int .u8 (t.ch 11), .int .u8 (t.ch 12), .int .u8 (t.ch 13), .int .u8 (t.ch 14), .int .u8 (t.ch 15), .int .u8 (t.ch 16), .int .u8 (t.ch 17), .int .u8 (t.ch 18), .int .u64 t.fl, .int .u32 t.inn, .int .u32 t.out, .int .i64 t.mn, .int .i64 t.tm]
def TM.val (t : TM) : Value := .agg #[.int .u8 (t.ch 0), .int .u8 (t.ch 1), .int .u8 (t.ch 2), .int .u8 (t.ch 3), .int .u8 (t.ch 4), .int .u8 (t.ch 5), .int .u8 (t.ch 6), .int .u8 (t.ch 7), .int .u8 (t.ch 8), .int .u8 (t.ch 9), .int .u8 (t.ch 10), .int .u8 (t.ch 11), .int .u8 (t.ch 12), .int .u8 (t.ch 13), .int .u8 (t.ch 14), .int .u8 (t.ch 15), .int .u8 (t.ch 16), .int .u8 (t.ch 17), .int .u8 (t.ch 18), .int .u64 t.fl, .int .u32 t.inn, .int .u32 t.out, .int .i64 t.mn, .int .i64 t.tm]
def isFlagB (op : Int) : Bool := (decide (30 ≤ op) && decide (op ≤ 42)) || ((decide (50 ≤ op) && decide (op ≤ 62)) || ((decide (70 ≤ op) && decide (op ≤ 75)) || (decide (90 ≤ op) && decide (op ≤ 93))))
def bitI (op : Int) : Int := ((2 ^ (op - 30).toNat : Nat) : Int)
/-- A flag is on. -/
def hasI (fl op : Int) : Bool := isFlagB op && (IntKind.u64.wrap (((BitVec.ofInt 64 fl) &&& (BitVec.ofInt 64 (bitI op))).toNat) != 0)
def TM.has (t : TM) (op : Int) : Bool := hasI t.fl op
/-- With a flag on, or off. -/
def setI (fl op : Int) (on : Bool) : Int := if isFlagB op then (if on then IntKind.u64.wrap (((BitVec.ofInt 64 fl) ||| (BitVec.ofInt 64 (bitI op))).toNat) else IntKind.u64.wrap (((BitVec.ofInt 64 fl) &&& ~~~(BitVec.ofInt 64 (bitI op))).toNat)) else fl
def TM.set (t : TM) (op : Int) (on : Bool) : TM := { t with fl := setI t.fl op on }
theorem groups_any (w : World) : Calls Tryz.prog 70 #[] w fun e w' => e = .returned (.agg #[.int .i64 30, .int .i64 42, .int .i64 50, .int .i64 62, .int .i64 70, .int .i64 75, .int .i64 90, .int .i64 93]) ∧ Only [] w w' := by
  refine Hs.enter Tryz.func70 [] [] [] [] (Mem.start0 w) (by kernel_rfl) (by kernel_rfl) ?_
  refine Hs.run1 300 (fun _ => by kernel_rfl) fun b0 => ?_
  exact Hs.ret (v := .agg #[.int .i64 30, .int .i64 42, .int .i64 50, .int .i64 62, .int .i64 70, .int .i64 75, .int .i64 90, .int .i64 93]) Tryz.func70 (by kernel_rfl) fun w' H => ⟨rfl, H.only⟩
theorem flag_step {x y op : Int} {r : Bool} : ((decide (x ≤ op) && decide (op ≤ y)) || r) = if x ≤ op ∧ op ≤ y then true else r := by
  by_cases h1 : x ≤ op <;> by_cases h2 : op ≤ y <;> simp [h1, h2]
theorem isFlag_any (op : Int) (w : World) : Calls Tryz.prog 160 #[.int .i64 op] w fun e w' => e = .returned (.bool (isFlagB op)) ∧ Only [] w w' := by
  have J4 : ¬ ((30 : Int) ≤ op ∧ op ≤ 42) → ¬ ((50 : Int) ≤ op ∧ op ≤ 62) → ¬ ((70 : Int) ≤ op ∧ op ≤ 75) → ¬ ((90 : Int) ≤ op ∧ op ≤ 93) → ∀ u : Nat → Value, Hs Tryz.prog 160 (fun e w' => e = .returned (.bool (isFlagB op)) ∧ Only [] w w') (Tryz.f160).ntmps w [] [] ⟨.no, loopAt Tryz.f160 0, pins [(0, .c (.v (.int .i64 op))), (2, .c (.v (.bool false))), (5, .c (.v (.agg #[.int .i64 30, .int .i64 42, .int .i64 50, .int .i64 62, .int .i64 70, .int .i64 75, .int .i64 90, .int .i64 93]))), (6, .c (.v (.int .i64 4)))] (.vals u), []⟩ := by
    intro g0 g1 g2 g3 u
    refine Hs.run0 300 (fun _ => by kernel_rfl) ?_
    refine Hs.condF (by kernel_rfl) ?_
    refine Hs.run0 300 (fun _ => by kernel_rfl) ?_
    have e : isFlagB op = false := by
      simp only [isFlagB, flag_step, if_neg g0, if_neg g1, if_neg g2]
      simpa using g3
    exact Hs.ret (v := .bool false) Tryz.func160 (by kernel_rfl) fun w' H => ⟨by rw [e], H.only⟩
  have J3 : ¬ ((30 : Int) ≤ op ∧ op ≤ 42) → ¬ ((50 : Int) ≤ op ∧ op ≤ 62) → ¬ ((70 : Int) ≤ op ∧ op ≤ 75) → ∀ u : Nat → Value, Hs Tryz.prog 160 (fun e w' => e = .returned (.bool (isFlagB op)) ∧ Only [] w w') (Tryz.f160).ntmps w [] [] ⟨.no, loopAt Tryz.f160 0, pins [(0, .c (.v (.int .i64 op))), (2, .c (.v (.bool false))), (5, .c (.v (.agg #[.int .i64 30, .int .i64 42, .int .i64 50, .int .i64 62, .int .i64 70, .int .i64 75, .int .i64 90, .int .i64 93]))), (6, .c (.v (.int .i64 3)))] (.vals u), []⟩ := by
    intro g0 g1 g2 u
    refine Hs.run0 300 (fun _ => by kernel_rfl) ?_
    refine Hs.condT (by kernel_rfl) ?_
    refine Hs.run1 300 (fun _ => by kernel_rfl) fun c0 => ?_
    refine Hs.bool 13 (decide ((90 : Int) ≤ op)) (by kernel_rfl) (fun h => ?_) (fun h => ?_)
    · have h1 := of_decide_eq_true h
      refine Hs.rung0 [4] 300 (fun _ => by kernel_rfl) ?_
      refine Hs.condP (op ≤ (93 : Int)) (by kernel_rfl) (fun h2 => ?_) (fun h2 => ?_)
      · have e : isFlagB op = true := by
          simp only [isFlagB, flag_step, if_neg g0, if_neg g1, if_neg g2]
          simp [h1, h2]
        refine Hs.run0 300 (fun _ => by kernel_rfl) ?_
        exact Hs.ret (v := .bool true) Tryz.func160 (by kernel_rfl) fun w' H => ⟨by rw [e], H.only⟩
      · refine Hs.run0 300 (fun _ => by kernel_rfl) ?_
        refine Hs.loop (by kernel_rfl) ?_
        exact Hs.goto (loopAt Tryz.f160 0) [] [] [(0, .c (.v (.int .i64 op))), (2, .c (.v (.bool false))), (5, .c (.v (.agg #[.int .i64 30, .int .i64 42, .int .i64 50, .int .i64 62, .int .i64 70, .int .i64 75, .int .i64 90, .int .i64 93]))), (6, .c (.v (.int .i64 4)))] (by kernel_rfl) (by decide) (by kernel_rfl) (by kernel_rfl) (fun _ => (by kernel_rfl)) (J4 g0 g1 g2 (fun h => by omega))
    · have h1 := of_decide_eq_false h
      refine Hs.rung0 [4] 300 (fun _ => by kernel_rfl) ?_
      refine Hs.condF (by kernel_rfl) ?_
      refine Hs.run0 300 (fun _ => by kernel_rfl) ?_
      refine Hs.loop (by kernel_rfl) ?_
      exact Hs.goto (loopAt Tryz.f160 0) [] [] [(0, .c (.v (.int .i64 op))), (2, .c (.v (.bool false))), (5, .c (.v (.agg #[.int .i64 30, .int .i64 42, .int .i64 50, .int .i64 62, .int .i64 70, .int .i64 75, .int .i64 90, .int .i64 93]))), (6, .c (.v (.int .i64 4)))] (by kernel_rfl) (by decide) (by kernel_rfl) (by kernel_rfl) (fun _ => (by kernel_rfl)) (J4 g0 g1 g2 (fun h => by omega))
  have J2 : ¬ ((30 : Int) ≤ op ∧ op ≤ 42) → ¬ ((50 : Int) ≤ op ∧ op ≤ 62) → ∀ u : Nat → Value, Hs Tryz.prog 160 (fun e w' => e = .returned (.bool (isFlagB op)) ∧ Only [] w w') (Tryz.f160).ntmps w [] [] ⟨.no, loopAt Tryz.f160 0, pins [(0, .c (.v (.int .i64 op))), (2, .c (.v (.bool false))), (5, .c (.v (.agg #[.int .i64 30, .int .i64 42, .int .i64 50, .int .i64 62, .int .i64 70, .int .i64 75, .int .i64 90, .int .i64 93]))), (6, .c (.v (.int .i64 2)))] (.vals u), []⟩ := by
    intro g0 g1 u
    refine Hs.run0 300 (fun _ => by kernel_rfl) ?_
    refine Hs.condT (by kernel_rfl) ?_
    refine Hs.run1 300 (fun _ => by kernel_rfl) fun c0 => ?_
    refine Hs.bool 13 (decide ((70 : Int) ≤ op)) (by kernel_rfl) (fun h => ?_) (fun h => ?_)
    · have h1 := of_decide_eq_true h
      refine Hs.rung0 [4] 300 (fun _ => by kernel_rfl) ?_
      refine Hs.condP (op ≤ (75 : Int)) (by kernel_rfl) (fun h2 => ?_) (fun h2 => ?_)
      · have e : isFlagB op = true := by
          simp only [isFlagB, flag_step, if_neg g0, if_neg g1]
          simp [h1, h2]
        refine Hs.run0 300 (fun _ => by kernel_rfl) ?_
        exact Hs.ret (v := .bool true) Tryz.func160 (by kernel_rfl) fun w' H => ⟨by rw [e], H.only⟩
      · refine Hs.run0 300 (fun _ => by kernel_rfl) ?_
        refine Hs.loop (by kernel_rfl) ?_
        exact Hs.goto (loopAt Tryz.f160 0) [] [] [(0, .c (.v (.int .i64 op))), (2, .c (.v (.bool false))), (5, .c (.v (.agg #[.int .i64 30, .int .i64 42, .int .i64 50, .int .i64 62, .int .i64 70, .int .i64 75, .int .i64 90, .int .i64 93]))), (6, .c (.v (.int .i64 3)))] (by kernel_rfl) (by decide) (by kernel_rfl) (by kernel_rfl) (fun _ => (by kernel_rfl)) (J3 g0 g1 (fun h => by omega))
    · have h1 := of_decide_eq_false h
      refine Hs.rung0 [4] 300 (fun _ => by kernel_rfl) ?_
      refine Hs.condF (by kernel_rfl) ?_
      refine Hs.run0 300 (fun _ => by kernel_rfl) ?_
      refine Hs.loop (by kernel_rfl) ?_
      exact Hs.goto (loopAt Tryz.f160 0) [] [] [(0, .c (.v (.int .i64 op))), (2, .c (.v (.bool false))), (5, .c (.v (.agg #[.int .i64 30, .int .i64 42, .int .i64 50, .int .i64 62, .int .i64 70, .int .i64 75, .int .i64 90, .int .i64 93]))), (6, .c (.v (.int .i64 3)))] (by kernel_rfl) (by decide) (by kernel_rfl) (by kernel_rfl) (fun _ => (by kernel_rfl)) (J3 g0 g1 (fun h => by omega))
  have J1 : ¬ ((30 : Int) ≤ op ∧ op ≤ 42) → ∀ u : Nat → Value, Hs Tryz.prog 160 (fun e w' => e = .returned (.bool (isFlagB op)) ∧ Only [] w w') (Tryz.f160).ntmps w [] [] ⟨.no, loopAt Tryz.f160 0, pins [(0, .c (.v (.int .i64 op))), (2, .c (.v (.bool false))), (5, .c (.v (.agg #[.int .i64 30, .int .i64 42, .int .i64 50, .int .i64 62, .int .i64 70, .int .i64 75, .int .i64 90, .int .i64 93]))), (6, .c (.v (.int .i64 1)))] (.vals u), []⟩ := by
    intro g0 u
    refine Hs.run0 300 (fun _ => by kernel_rfl) ?_
    refine Hs.condT (by kernel_rfl) ?_
    refine Hs.run1 300 (fun _ => by kernel_rfl) fun c0 => ?_
    refine Hs.bool 13 (decide ((50 : Int) ≤ op)) (by kernel_rfl) (fun h => ?_) (fun h => ?_)
    · have h1 := of_decide_eq_true h
      refine Hs.rung0 [4] 300 (fun _ => by kernel_rfl) ?_
      refine Hs.condP (op ≤ (62 : Int)) (by kernel_rfl) (fun h2 => ?_) (fun h2 => ?_)
      · have e : isFlagB op = true := by
          simp only [isFlagB, flag_step, if_neg g0]
          simp [h1, h2]
        refine Hs.run0 300 (fun _ => by kernel_rfl) ?_
        exact Hs.ret (v := .bool true) Tryz.func160 (by kernel_rfl) fun w' H => ⟨by rw [e], H.only⟩
      · refine Hs.run0 300 (fun _ => by kernel_rfl) ?_
        refine Hs.loop (by kernel_rfl) ?_
        exact Hs.goto (loopAt Tryz.f160 0) [] [] [(0, .c (.v (.int .i64 op))), (2, .c (.v (.bool false))), (5, .c (.v (.agg #[.int .i64 30, .int .i64 42, .int .i64 50, .int .i64 62, .int .i64 70, .int .i64 75, .int .i64 90, .int .i64 93]))), (6, .c (.v (.int .i64 2)))] (by kernel_rfl) (by decide) (by kernel_rfl) (by kernel_rfl) (fun _ => (by kernel_rfl)) (J2 g0 (fun h => by omega))
    · have h1 := of_decide_eq_false h
      refine Hs.rung0 [4] 300 (fun _ => by kernel_rfl) ?_
      refine Hs.condF (by kernel_rfl) ?_
      refine Hs.run0 300 (fun _ => by kernel_rfl) ?_
      refine Hs.loop (by kernel_rfl) ?_
      exact Hs.goto (loopAt Tryz.f160 0) [] [] [(0, .c (.v (.int .i64 op))), (2, .c (.v (.bool false))), (5, .c (.v (.agg #[.int .i64 30, .int .i64 42, .int .i64 50, .int .i64 62, .int .i64 70, .int .i64 75, .int .i64 90, .int .i64 93]))), (6, .c (.v (.int .i64 2)))] (by kernel_rfl) (by decide) (by kernel_rfl) (by kernel_rfl) (fun _ => (by kernel_rfl)) (J2 g0 (fun h => by omega))
  have J0 : ∀ u : Nat → Value, Hs Tryz.prog 160 (fun e w' => e = .returned (.bool (isFlagB op)) ∧ Only [] w w') (Tryz.f160).ntmps w [] [] ⟨.no, loopAt Tryz.f160 0, pins [(0, .c (.v (.int .i64 op))), (2, .c (.v (.bool false))), (5, .c (.v (.agg #[.int .i64 30, .int .i64 42, .int .i64 50, .int .i64 62, .int .i64 70, .int .i64 75, .int .i64 90, .int .i64 93]))), (6, .c (.v (.int .i64 0)))] (.vals u), []⟩ := by
    intro  u
    refine Hs.run0 300 (fun _ => by kernel_rfl) ?_
    refine Hs.condT (by kernel_rfl) ?_
    refine Hs.run1 300 (fun _ => by kernel_rfl) fun c0 => ?_
    refine Hs.bool 13 (decide ((30 : Int) ≤ op)) (by kernel_rfl) (fun h => ?_) (fun h => ?_)
    · have h1 := of_decide_eq_true h
      refine Hs.rung0 [4] 300 (fun _ => by kernel_rfl) ?_
      refine Hs.condP (op ≤ (42 : Int)) (by kernel_rfl) (fun h2 => ?_) (fun h2 => ?_)
      · have e : isFlagB op = true := by
          simp only [isFlagB, flag_step]
          simp [h1, h2]
        refine Hs.run0 300 (fun _ => by kernel_rfl) ?_
        exact Hs.ret (v := .bool true) Tryz.func160 (by kernel_rfl) fun w' H => ⟨by rw [e], H.only⟩
      · refine Hs.run0 300 (fun _ => by kernel_rfl) ?_
        refine Hs.loop (by kernel_rfl) ?_
        exact Hs.goto (loopAt Tryz.f160 0) [] [] [(0, .c (.v (.int .i64 op))), (2, .c (.v (.bool false))), (5, .c (.v (.agg #[.int .i64 30, .int .i64 42, .int .i64 50, .int .i64 62, .int .i64 70, .int .i64 75, .int .i64 90, .int .i64 93]))), (6, .c (.v (.int .i64 1)))] (by kernel_rfl) (by decide) (by kernel_rfl) (by kernel_rfl) (fun _ => (by kernel_rfl)) (J1  (fun h => by omega))
    · have h1 := of_decide_eq_false h
      refine Hs.rung0 [4] 300 (fun _ => by kernel_rfl) ?_
      refine Hs.condF (by kernel_rfl) ?_
      refine Hs.run0 300 (fun _ => by kernel_rfl) ?_
      refine Hs.loop (by kernel_rfl) ?_
      exact Hs.goto (loopAt Tryz.f160 0) [] [] [(0, .c (.v (.int .i64 op))), (2, .c (.v (.bool false))), (5, .c (.v (.agg #[.int .i64 30, .int .i64 42, .int .i64 50, .int .i64 62, .int .i64 70, .int .i64 75, .int .i64 90, .int .i64 93]))), (6, .c (.v (.int .i64 1)))] (by kernel_rfl) (by decide) (by kernel_rfl) (by kernel_rfl) (fun _ => (by kernel_rfl)) (J1  (fun h => by omega))
  refine Hs.enter Tryz.func160 [] [] [] [.c (.v (.int .i64 op))] (Mem.start0 w) (by kernel_rfl) (by kernel_rfl) ?_
  refine Hs.run0 300 (fun _ => by kernel_rfl) ?_
  refine Hs.callV (fun w' H => groups_any w') (by kernel_rfl) ?_
  refine Hs.run0 300 (fun _ => by kernel_rfl) ?_
  refine Hs.loop (by kernel_rfl) ?_
  exact Hs.goto (loopAt Tryz.f160 0) [] [] [(0, .c (.v (.int .i64 op))), (2, .c (.v (.bool false))), (5, .c (.v (.agg #[.int .i64 30, .int .i64 42, .int .i64 50, .int .i64 62, .int .i64 70, .int .i64 75, .int .i64 90, .int .i64 93]))), (6, .c (.v (.int .i64 0)))] (by kernel_rfl) (by decide) (by kernel_rfl) (by kernel_rfl) (fun _ => (by kernel_rfl)) J0
theorem flag_lo {op : Int} (h : isFlagB op = true) : 30 ≤ op ∧ op ≤ 93 := by
  simp [isFlagB] at h
  omega
theorem bit_any (op : Int) (h1 : 30 ≤ op) (h2 : op ≤ 93) (w : World) : Calls Tryz.prog 45 #[.int .i64 op] w fun e w' => e = .returned (.int .u64 (bitI op)) ∧ Only [] w w' := by
  refine Hs.enter Tryz.func45 [] [] [] [.c (.v (.int .i64 op))] (Mem.start0 w) (by kernel_rfl) (by kernel_rfl) ?_
  refine Hs.rung0 [] 8 (fun _ => (by kernel_rfl)) ?_
  have e : IntKind.i64.wrap (op - 30) = op - 30 := IntWalk.i64_in _ (by omega)
  have e2 : IntKind.u64.wrap ((1 : Int) * 2 ^ min (op - 30).toNat 64) = bitI op := by
    rw [Nat.min_eq_left (by omega), Int.one_mul]
    unfold bitI
    have h3 : (2 : Int) ^ (op - 30).toNat = ((2 ^ (op - 30).toNat : Nat) : Int) := (Int.natCast_pow 2 _).symm
    have h6 : (op - 30).toNat < 64 := by omega
    have h4 : 2 ^ (op - 30).toNat < 2 ^ 64 := Nat.pow_lt_pow_right (by decide) h6
    rw [h3]
    generalize 2 ^ (op - 30).toNat = q at h4
    have h7 : q < 18446744073709551616 := h4
    have h5 : (q : Int) < 18446744073709551616 := by omega
    show ((q : Int) % (18446744073709551616 : Int)) = _
    exact Int.emod_eq_of_lt (Int.natCast_nonneg q) h5
  refine Hs.bin (op := .shl) (T := 26) (k := .u64) (k' := .i64) (a := 1) (b := IntKind.i64.wrap (op - 30)) (.int .u64 (IntKind.u64.wrap ((1 : Int) * 2 ^ min (IntKind.i64.wrap (op - 30)).toNat 64))) (by kernel_rfl) (fun w => run_shl (by rw [e]; omega) w) ?_
  refine Hs.run0 300 (fun _ => by kernel_rfl) ?_
  exact Hs.ret (v := .int .u64 (IntKind.u64.wrap ((1 : Int) * 2 ^ min (IntKind.i64.wrap (op - 30)).toNat 64))) Tryz.func45 (by kernel_rfl) fun w' H => ⟨by rw [e, e2], H.only⟩
def TM.chr (t : TM) (op : Nat) : Int := if t.ch op == 255 then 0 else t.ch op
def TM.on (t : TM) (op : Nat) : Bool := !(t.ch op == 255)
def TM.is (t : TM) (op : Nat) (c : Int) : Bool := t.on op && c == t.ch op
theorem set_any (t : TM) (op : Int) (on : Bool) (w : World) : Calls Tryz.prog 150 #[t.val, .int .i64 op, .bool on] w fun e w' => e = .returned (t.set op on).val ∧ Only [] w w' := by
  obtain ⟨ch, fl, inn, out, mn, tm⟩ := t
  refine Hs.enter Tryz.func150 [] [] [] [.g (TM.sc ⟨ch, fl, inn, out, mn, tm⟩), .c (.v (.int .i64 op)), .c (.v (.bool on))] (Mem.start0 w) (by kernel_rfl) (by kernel_rfl) ?_
  refine Hs.run2 300 (fun _ => by kernel_rfl) fun b0 b1 => ?_
  refine Hs.callV (fun w' H => isFlag_any op w') (by kernel_rfl) ?_
  refine Hs.run0 300 (fun _ => by kernel_rfl) ?_
  refine Hs.cond (!isFlagB op) (by kernel_rfl) (fun h => ?_) (fun h => ?_)
  · refine Hs.run0 300 (fun _ => by kernel_rfl) ?_
    exact Hs.ret (v := TM.val ⟨ch, fl, inn, out, mn, tm⟩) Tryz.func150 (by kernel_rfl) fun w' H => ⟨by
      have h : isFlagB op = false := by simpa using h
      simp only [TM.set, setI, h, Bool.false_eq_true, if_false], H.only⟩
  have h : isFlagB op = true := by simpa using h
  obtain ⟨h1, h2⟩ := flag_lo h
  refine Hs.run0 300 (fun _ => by kernel_rfl) ?_
  refine Hs.cond on (by kernel_rfl) (fun ho => ?_) (fun ho => ?_)
  · refine Hs.run0 300 (fun _ => by kernel_rfl) ?_
    refine Hs.any [0, 1006] (by kernel_rfl) ?_
    refine Hs.run0 300 (fun _ => by kernel_rfl) ?_
    refine Hs.callV (fun w' H => bit_any op h1 h2 w') (by kernel_rfl) ?_
    refine Hs.run0 300 (fun _ => by kernel_rfl) ?_
    exact Hs.ret (v := TM.val ⟨ch, IntKind.u64.wrap (((BitVec.ofInt 64 fl) ||| (BitVec.ofInt 64 (bitI op))).toNat), inn, out, mn, tm⟩) Tryz.func150 (by kernel_rfl) fun w' H => ⟨by subst ho; simp only [TM.set, setI, h, if_true], H.only⟩
  · refine Hs.run0 300 (fun _ => by kernel_rfl) ?_
    refine Hs.any [0, 1006] (by kernel_rfl) ?_
    refine Hs.run0 300 (fun _ => by kernel_rfl) ?_
    refine Hs.callV (fun w' H => bit_any op h1 h2 w') (by kernel_rfl) ?_
    refine Hs.run0 300 (fun _ => by kernel_rfl) ?_
    exact Hs.ret (v := TM.val ⟨ch, IntKind.u64.wrap (((BitVec.ofInt 64 fl) &&& ~~~(BitVec.ofInt 64 (bitI op))).toNat), inn, out, mn, tm⟩) Tryz.func150 (by kernel_rfl) fun w' H => ⟨by subst ho; simp only [TM.set, setI, h, if_true, Bool.false_eq_true, if_false], H.only⟩
end Go.Proofs.YtdplnedpbkpgpaaGreatDoor

namespace Go.Proofs.YtdplnedpbkpgpaaGreatDoor
set_option linter.all false
set_option maxRecDepth 100000
open Go.RowKit

def byS (st fr : Int) : Int := if isS (IntKind.i64.wrap (st - fr)) then IntKind.i64.wrap (st - fr) else 0
theorem by_any27 (st fr : Int) (w : World) : Calls Tryz.prog 39 #[.int .i64 st, .int .i64 fr] w fun e w' => e = .returned (.int .i64 (byS st fr)) ∧ Only [] w w' := by
  unfold byS
  refine Hs.enter Tryz.func39 [] [] [] [.c (.v (.int .i64 st)), .c (.v (.int .i64 fr))] (Mem.start0 w) (by kernel_rfl) (by kernel_rfl) ?_
  refine Hs.run0 300 (fun _ => by kernel_rfl) ?_
  refine Hs.callV (fun w' H => name_any18 (IntKind.i64.wrap (st - fr)) w') (by kernel_rfl) ?_
  refine Hs.run0 300 (fun _ => by kernel_rfl) ?_
  refine Hs.cond (isS (IntKind.i64.wrap (st - fr))) (by kernel_rfl) (fun h => ?_) (fun h => ?_)
  · rw [if_pos h]
    refine Hs.run0 300 (fun _ => by kernel_rfl) ?_
    exact Hs.ret (v := .int .i64 (IntKind.i64.wrap (st - fr))) Tryz.func39 (by kernel_rfl) fun w' H => ⟨rfl, H.only⟩
  · rw [if_neg (by rw [h]; decide)]
    refine Hs.run0 300 (fun _ => by kernel_rfl) ?_
    exact Hs.ret (v := .int .i64 0) Tryz.func39 (by kernel_rfl) fun w' H => ⟨rfl, H.only⟩
theorem isS_range {n : Int} (h : isS n = true) : 1 ≤ n ∧ n ≤ 28 := by
  unfold isS at h
  simp only [Bool.or_eq_true, Bool.and_eq_true, decide_eq_true_eq] at h
  omega
theorem byS_range (st fr : Int) : 0 ≤ byS st fr ∧ byS st fr ≤ 28 := by
  unfold byS
  split
  · rename_i h
    have := isS_range h
    omega
  · omega
def oursS : ByteArray := ⟨#[64, 112, 97, 114, 108, 111, 117, 114]⟩
def RQ.sc (m : RQ) : List SC := [.v (.int .i64 m.kind), .v (.string m.text), .v (.string m.value), .v (.string m.lang), .v (.int .u32 m.cols), .v (.int .u32 m.rows), .v (.int .u32 m.width), .v (.int .u32 m.height), .v (.slice m.mA m.modes.length m.mc), .v (.bool m.on), .v (.int .u32 m.code)]
def codeS (st : Int) : Int := IntKind.u32.wrap (IntKind.i64.wrap ((BitVec.ofInt 64 st &&& BitVec.ofInt 64 255).toNat))
def sumS (st : Int) : Int := IntKind.i64.wrap (byS st 1000 + byS st 2000)
def endR (st : Int) : RQ := if sumS st == 0 then { zeroR with kind := 9, code := codeS st } else { zeroR with kind := 10, text := (if wireS (sumS st) then (if isS (sumS st) then nameS (sumS st) else ⟨#[]⟩) else (if isS (sumS st) then nameS (sumS st) else ⟨#[]⟩) ++ oursS), on := decide (byS st 2000 > 0) }
theorem nameS_size {n : Int} (h : isS n = true) : (nameS n).size ≤ 5 := by
  obtain ⟨h1, h2⟩ := isS_range h
  rcases c28 h1 h2 with rfl | rfl | rfl | rfl | rfl | rfl | rfl | rfl | rfl | rfl | rfl | rfl | rfl | rfl | rfl | rfl | rfl | rfl | rfl | rfl | rfl | rfl | rfl | rfl | rfl | rfl | rfl | rfl <;> decide
theorem textS_size (n : Int) : (if isS n then nameS n else (⟨#[]⟩ : ByteArray)).size ≤ 5 := by
  split
  · rename_i h; exact nameS_size h
  · decide
theorem run_cat (a b : ByteArray) (T : TypeId) (h : a.size + b.size ≤ 1000000) (w : World) : (Go.binOp .add T (.string a) (.string b)).run Tryz.prog w = .ok (.string (a ++ b)) w := by
  show (Op.stringOp .add a b).run Tryz.prog w = _
  unfold Op.stringOp
  dsimp only
  rw [if_neg (by
    show ¬ ((a.size + b.size : Nat) : Int) > 9223372036854775807
    omega)]
  rfl
theorem end_any27 (st : Int) (w : World) : Calls Tryz.prog 19 #[.int .i64 st] w fun e w' => e = .returned (endR st).val ∧ Only [] w w' := by
  refine Hs.enter Tryz.func19 [] [] [] [.c (.v (.int .i64 st))] (Mem.start0 w) (by kernel_rfl) (by kernel_rfl) ?_
  have ht := textS_size (sumS st)
  unfold endR
  refine Hs.run1 300 (fun _ => by kernel_rfl) fun b0 => ?_
  refine Hs.callV (fun w' H => by_any27 st 1000 w') (by kernel_rfl) ?_
  refine Hs.run0 300 (fun _ => by kernel_rfl) ?_
  refine Hs.callV (fun w' H => by_any27 st 2000 w') (by kernel_rfl) ?_
  refine Hs.run0 300 (fun _ => by kernel_rfl) ?_
  refine Hs.cond (sumS st == 0) (by kernel_rfl) (fun h => ?_) (fun h => ?_)
  · rw [if_pos h]
    refine Hs.run0 300 (fun _ => by kernel_rfl) ?_
    exact Hs.ret (v := RQ.val { zeroR with kind := 9, code := codeS st }) Tryz.func19 (by kernel_rfl) fun w' H => ⟨rfl, H.only⟩
  rw [if_neg (by rw [h]; decide)]
  refine Hs.run0 300 (fun _ => by kernel_rfl) ?_
  refine Hs.callV (fun w' H => name_any18 (sumS st) w') (by kernel_rfl) ?_
  refine Hs.run0 300 (fun _ => by kernel_rfl) ?_
  refine Hs.callV (fun w' H => wire_any18 (sumS st) w') (by kernel_rfl) ?_
  refine Hs.run0 300 (fun _ => by kernel_rfl) ?_
  generalize (if isS (sumS st) then nameS (sumS st) else (⟨#[]⟩ : ByteArray)) = tx at ht ⊢
  refine Hs.cond (!wireS (sumS st)) (by kernel_rfl) (fun h1 => ?_) (fun h1 => ?_)
  · rw [if_neg (by simpa using h1)]
    refine Hs.run0 2 (fun _ => by kernel_rfl) ?_
    refine Hs.opV (.c (.v (.string (tx ++ oursS)))) (by kernel_rfl) rfl (fun w H => run_cat tx oursS 9 (by have : oursS.size = 8 := rfl; omega) w) ?_
    refine Hs.run0 300 (fun _ => by kernel_rfl) ?_
    exact Hs.ret (v := RQ.val { zeroR with kind := 10, text := tx ++ oursS, on := decide (byS st 2000 > 0) }) Tryz.func19 (by kernel_rfl) fun w' H => ⟨rfl, H.only⟩
  · rw [if_pos (by simpa using h1)]
    refine Hs.run0 300 (fun _ => by kernel_rfl) ?_
    exact Hs.ret (v := RQ.val { zeroR with kind := 10, text := tx, on := decide (byS st 2000 > 0) }) Tryz.func19 (by kernel_rfl) fun w' H => ⟨rfl, H.only⟩
end Go.Proofs.YtdplnedpbkpgpaaGreatDoor

namespace Go.Proofs.YtdplnedpbkpgpaaGreatDoor
set_option linter.all false
set_option maxRecDepth 100000
open Go.RowKit
def doesS (n : Int) : Int := ([0, 1, 1, 2, 2, 2, 2, 2, 2, 1, 1, 2, 1, 1, 1, 1, 0, 3, 5, 4, 4, 4, 4, 0, 0, 0, 0, 0, 3] : List Int).getD n.toNat 0
/-- A row of the document's table. -/
def rowS (n : Int) : Value := if isS n then .agg #[.int .i64 n, .string (nameS n), .int .i64 (doesS n), .bool (wireS n)] else .agg #[.int .i64 0, .string ⟨#[]⟩, .int .i64 0, .bool false]
def rowL (n : Int) : Value := .agg #[.int .i64 (if isS n then n else 0), .string (if isS n then nameS n else ⟨#[]⟩), .int .i64 (if isS n then doesS n else 0), .bool (wireS n)]
theorem rowS_eq (n : Int) : rowS n = rowL n := by
  unfold rowS rowL
  by_cases h : isS n = true
  · rw [if_pos h, if_pos h, if_pos h, if_pos h]
  · rw [if_neg h, if_neg h, if_neg h, if_neg h]
    unfold wireS
    rw [show isS n = false by simpa using h]
    rfl
theorem sIs {n : Int} (h : n ≠ 1 ∧ n ≠ 2 ∧ n ≠ 3 ∧ n ≠ 4 ∧ n ≠ 5 ∧ n ≠ 6 ∧ n ≠ 7 ∧ n ≠ 8 ∧ n ≠ 9 ∧ n ≠ 10 ∧ n ≠ 11 ∧ n ≠ 12 ∧ n ≠ 13 ∧ n ≠ 14 ∧ n ≠ 15 ∧ n ≠ 17 ∧ n ≠ 18 ∧ n ≠ 19 ∧ n ≠ 20 ∧ n ≠ 21 ∧ n ≠ 22 ∧ n ≠ 28) : isS n = false := by
  unfold isS
  simp only [Bool.or_eq_false_iff, Bool.and_eq_false_iff, decide_eq_false_iff_not]
  omega
def rowSC (n : Int) : List SC := [.v (.int .i64 n), .v (.string (nameS n)), .v (.int .i64 (doesS n)), .v (.bool (wireS n))]
def rowsSC : List SC := [1, 2, 3, 4, 5, 6, 7, 8, 9, 10, 11, 12, 13, 14, 15, 17, 18, 19, 20, 21, 22, 28].flatMap rowSC
theorem ofJ22 (n : Int) (w : World) (h1 : n ≠ 1) (h2 : n ≠ 2) (h3 : n ≠ 3) (h4 : n ≠ 4) (h5 : n ≠ 5) (h6 : n ≠ 6) (h7 : n ≠ 7) (h8 : n ≠ 8) (h9 : n ≠ 9) (h10 : n ≠ 10) (h11 : n ≠ 11) (h12 : n ≠ 12) (h13 : n ≠ 13) (h14 : n ≠ 14) (h15 : n ≠ 15) (h17 : n ≠ 17) (h18 : n ≠ 18) (h19 : n ≠ 19) (h20 : n ≠ 20) (h21 : n ≠ 21) (h22 : n ≠ 22) (h28 : n ≠ 28) (b0 b1 : Nat) (u : Nat → Value) : Hs Tryz.prog 66 (fun e w' => e = .returned (.tuple #[rowS n, .bool (isS n)]) ∧ Only [] w w') (Tryz.f66).ntmps w [] [b0, b1] ⟨.no, loopAt Tryz.f66 0, pins [(0, .c (.v (.int .i64 n))), (2, .c (.p 0 0)), (6, .c (.s 1 0 22 22)), (7, .c (.v (.int .i64 22))), (8, .c (.v (.int .i64 22)))] (.vals u), [.b true 149 [.v (.int .i64 0), .v (.string ⟨#[]⟩), .v (.int .i64 0), .v (.bool false)], .b true 149 rowsSC]⟩ := by
  have h := sIs (n := n) ⟨h1, h2, h3, h4, h5, h6, h7, h8, h9, h10, h11, h12, h13, h14, h15, h17, h18, h19, h20, h21, h22, h28⟩
  refine Hs.run0 300 (fun _ => by kernel_rfl) ?_
  refine Hs.condF (by kernel_rfl) ?_
  refine Hs.run0 300 (fun _ => by kernel_rfl) ?_
  exact Hs.ret (v := .tuple #[.agg #[.int .i64 0, .string ⟨#[]⟩, .int .i64 0, .bool false], .bool false]) Tryz.func66 (by kernel_rfl) fun w' H => ⟨by unfold rowS; rw [h]; rfl, H.only⟩
theorem ofJ21 (n : Int) (w : World) (h1 : n ≠ 1) (h2 : n ≠ 2) (h3 : n ≠ 3) (h4 : n ≠ 4) (h5 : n ≠ 5) (h6 : n ≠ 6) (h7 : n ≠ 7) (h8 : n ≠ 8) (h9 : n ≠ 9) (h10 : n ≠ 10) (h11 : n ≠ 11) (h12 : n ≠ 12) (h13 : n ≠ 13) (h14 : n ≠ 14) (h15 : n ≠ 15) (h17 : n ≠ 17) (h18 : n ≠ 18) (h19 : n ≠ 19) (h20 : n ≠ 20) (h21 : n ≠ 21) (h22 : n ≠ 22) (b0 b1 : Nat) (u : Nat → Value) : Hs Tryz.prog 66 (fun e w' => e = .returned (.tuple #[rowS n, .bool (isS n)]) ∧ Only [] w w') (Tryz.f66).ntmps w [] [b0, b1] ⟨.no, loopAt Tryz.f66 0, pins [(0, .c (.v (.int .i64 n))), (2, .c (.p 0 0)), (6, .c (.s 1 0 22 22)), (7, .c (.v (.int .i64 22))), (8, .c (.v (.int .i64 21)))] (.vals u), [.b true 149 [.v (.int .i64 0), .v (.string ⟨#[]⟩), .v (.int .i64 0), .v (.bool false)], .b true 149 rowsSC]⟩ := by
  refine Hs.run0 300 (fun _ => by kernel_rfl) ?_
  refine Hs.condT (by kernel_rfl) ?_
  refine Hs.run1 300 (fun _ => by kernel_rfl) fun b2 => ?_
  refine Hs.cond ((28 : Int) == n) (by kernel_rfl) (fun h => ?_) (fun h => ?_)
  · obtain rfl : n = 28 := (by simpa using h : (28 : Int) = n).symm
    refine Hs.run0 300 (fun _ => by kernel_rfl) ?_
    exact Hs.ret (v := .tuple #[rowL 28, .bool true]) Tryz.func66 (by kernel_rfl) fun w' H => ⟨by rw [rowS_eq]; rfl, H.only⟩
  have h28 : n ≠ 28 := fun e => by rw [e] at h; simp at h
  refine Hs.run0 300 (fun _ => by kernel_rfl) ?_
  refine Hs.loop (by kernel_rfl) ?_
  exact Hs.goto (loopAt Tryz.f66 0) [0, 1] [.b true 149 [.v (.int .i64 0), .v (.string ⟨#[]⟩), .v (.int .i64 0), .v (.bool false)], .b true 149 rowsSC] [(0, .c (.v (.int .i64 n))), (2, .c (.p 0 0)), (6, .c (.s 1 0 22 22)), (7, .c (.v (.int .i64 22))), (8, .c (.v (.int .i64 22)))] (by kernel_rfl) (by decide) (by kernel_rfl) (by kernel_rfl) (fun _ => (by kernel_rfl)) (fun u => ofJ22 n w h1 h2 h3 h4 h5 h6 h7 h8 h9 h10 h11 h12 h13 h14 h15 h17 h18 h19 h20 h21 h22 h28 b0 b1 u)
theorem ofJ20 (n : Int) (w : World) (h1 : n ≠ 1) (h2 : n ≠ 2) (h3 : n ≠ 3) (h4 : n ≠ 4) (h5 : n ≠ 5) (h6 : n ≠ 6) (h7 : n ≠ 7) (h8 : n ≠ 8) (h9 : n ≠ 9) (h10 : n ≠ 10) (h11 : n ≠ 11) (h12 : n ≠ 12) (h13 : n ≠ 13) (h14 : n ≠ 14) (h15 : n ≠ 15) (h17 : n ≠ 17) (h18 : n ≠ 18) (h19 : n ≠ 19) (h20 : n ≠ 20) (h21 : n ≠ 21) (b0 b1 : Nat) (u : Nat → Value) : Hs Tryz.prog 66 (fun e w' => e = .returned (.tuple #[rowS n, .bool (isS n)]) ∧ Only [] w w') (Tryz.f66).ntmps w [] [b0, b1] ⟨.no, loopAt Tryz.f66 0, pins [(0, .c (.v (.int .i64 n))), (2, .c (.p 0 0)), (6, .c (.s 1 0 22 22)), (7, .c (.v (.int .i64 22))), (8, .c (.v (.int .i64 20)))] (.vals u), [.b true 149 [.v (.int .i64 0), .v (.string ⟨#[]⟩), .v (.int .i64 0), .v (.bool false)], .b true 149 rowsSC]⟩ := by
  refine Hs.run0 300 (fun _ => by kernel_rfl) ?_
  refine Hs.condT (by kernel_rfl) ?_
  refine Hs.run1 300 (fun _ => by kernel_rfl) fun b2 => ?_
  refine Hs.cond ((22 : Int) == n) (by kernel_rfl) (fun h => ?_) (fun h => ?_)
  · obtain rfl : n = 22 := (by simpa using h : (22 : Int) = n).symm
    refine Hs.run0 300 (fun _ => by kernel_rfl) ?_
    exact Hs.ret (v := .tuple #[rowL 22, .bool true]) Tryz.func66 (by kernel_rfl) fun w' H => ⟨by rw [rowS_eq]; rfl, H.only⟩
  have h22 : n ≠ 22 := fun e => by rw [e] at h; simp at h
  refine Hs.run0 300 (fun _ => by kernel_rfl) ?_
  refine Hs.loop (by kernel_rfl) ?_
  exact Hs.goto (loopAt Tryz.f66 0) [0, 1] [.b true 149 [.v (.int .i64 0), .v (.string ⟨#[]⟩), .v (.int .i64 0), .v (.bool false)], .b true 149 rowsSC] [(0, .c (.v (.int .i64 n))), (2, .c (.p 0 0)), (6, .c (.s 1 0 22 22)), (7, .c (.v (.int .i64 22))), (8, .c (.v (.int .i64 21)))] (by kernel_rfl) (by decide) (by kernel_rfl) (by kernel_rfl) (fun _ => (by kernel_rfl)) (fun u => ofJ21 n w h1 h2 h3 h4 h5 h6 h7 h8 h9 h10 h11 h12 h13 h14 h15 h17 h18 h19 h20 h21 h22 b0 b1 u)
theorem ofJ19 (n : Int) (w : World) (h1 : n ≠ 1) (h2 : n ≠ 2) (h3 : n ≠ 3) (h4 : n ≠ 4) (h5 : n ≠ 5) (h6 : n ≠ 6) (h7 : n ≠ 7) (h8 : n ≠ 8) (h9 : n ≠ 9) (h10 : n ≠ 10) (h11 : n ≠ 11) (h12 : n ≠ 12) (h13 : n ≠ 13) (h14 : n ≠ 14) (h15 : n ≠ 15) (h17 : n ≠ 17) (h18 : n ≠ 18) (h19 : n ≠ 19) (h20 : n ≠ 20) (b0 b1 : Nat) (u : Nat → Value) : Hs Tryz.prog 66 (fun e w' => e = .returned (.tuple #[rowS n, .bool (isS n)]) ∧ Only [] w w') (Tryz.f66).ntmps w [] [b0, b1] ⟨.no, loopAt Tryz.f66 0, pins [(0, .c (.v (.int .i64 n))), (2, .c (.p 0 0)), (6, .c (.s 1 0 22 22)), (7, .c (.v (.int .i64 22))), (8, .c (.v (.int .i64 19)))] (.vals u), [.b true 149 [.v (.int .i64 0), .v (.string ⟨#[]⟩), .v (.int .i64 0), .v (.bool false)], .b true 149 rowsSC]⟩ := by
  refine Hs.run0 300 (fun _ => by kernel_rfl) ?_
  refine Hs.condT (by kernel_rfl) ?_
  refine Hs.run1 300 (fun _ => by kernel_rfl) fun b2 => ?_
  refine Hs.cond ((21 : Int) == n) (by kernel_rfl) (fun h => ?_) (fun h => ?_)
  · obtain rfl : n = 21 := (by simpa using h : (21 : Int) = n).symm
    refine Hs.run0 300 (fun _ => by kernel_rfl) ?_
    exact Hs.ret (v := .tuple #[rowL 21, .bool true]) Tryz.func66 (by kernel_rfl) fun w' H => ⟨by rw [rowS_eq]; rfl, H.only⟩
  have h21 : n ≠ 21 := fun e => by rw [e] at h; simp at h
  refine Hs.run0 300 (fun _ => by kernel_rfl) ?_
  refine Hs.loop (by kernel_rfl) ?_
  exact Hs.goto (loopAt Tryz.f66 0) [0, 1] [.b true 149 [.v (.int .i64 0), .v (.string ⟨#[]⟩), .v (.int .i64 0), .v (.bool false)], .b true 149 rowsSC] [(0, .c (.v (.int .i64 n))), (2, .c (.p 0 0)), (6, .c (.s 1 0 22 22)), (7, .c (.v (.int .i64 22))), (8, .c (.v (.int .i64 20)))] (by kernel_rfl) (by decide) (by kernel_rfl) (by kernel_rfl) (fun _ => (by kernel_rfl)) (fun u => ofJ20 n w h1 h2 h3 h4 h5 h6 h7 h8 h9 h10 h11 h12 h13 h14 h15 h17 h18 h19 h20 h21 b0 b1 u)
theorem ofJ18 (n : Int) (w : World) (h1 : n ≠ 1) (h2 : n ≠ 2) (h3 : n ≠ 3) (h4 : n ≠ 4) (h5 : n ≠ 5) (h6 : n ≠ 6) (h7 : n ≠ 7) (h8 : n ≠ 8) (h9 : n ≠ 9) (h10 : n ≠ 10) (h11 : n ≠ 11) (h12 : n ≠ 12) (h13 : n ≠ 13) (h14 : n ≠ 14) (h15 : n ≠ 15) (h17 : n ≠ 17) (h18 : n ≠ 18) (h19 : n ≠ 19) (b0 b1 : Nat) (u : Nat → Value) : Hs Tryz.prog 66 (fun e w' => e = .returned (.tuple #[rowS n, .bool (isS n)]) ∧ Only [] w w') (Tryz.f66).ntmps w [] [b0, b1] ⟨.no, loopAt Tryz.f66 0, pins [(0, .c (.v (.int .i64 n))), (2, .c (.p 0 0)), (6, .c (.s 1 0 22 22)), (7, .c (.v (.int .i64 22))), (8, .c (.v (.int .i64 18)))] (.vals u), [.b true 149 [.v (.int .i64 0), .v (.string ⟨#[]⟩), .v (.int .i64 0), .v (.bool false)], .b true 149 rowsSC]⟩ := by
  refine Hs.run0 300 (fun _ => by kernel_rfl) ?_
  refine Hs.condT (by kernel_rfl) ?_
  refine Hs.run1 300 (fun _ => by kernel_rfl) fun b2 => ?_
  refine Hs.cond ((20 : Int) == n) (by kernel_rfl) (fun h => ?_) (fun h => ?_)
  · obtain rfl : n = 20 := (by simpa using h : (20 : Int) = n).symm
    refine Hs.run0 300 (fun _ => by kernel_rfl) ?_
    exact Hs.ret (v := .tuple #[rowL 20, .bool true]) Tryz.func66 (by kernel_rfl) fun w' H => ⟨by rw [rowS_eq]; rfl, H.only⟩
  have h20 : n ≠ 20 := fun e => by rw [e] at h; simp at h
  refine Hs.run0 300 (fun _ => by kernel_rfl) ?_
  refine Hs.loop (by kernel_rfl) ?_
  exact Hs.goto (loopAt Tryz.f66 0) [0, 1] [.b true 149 [.v (.int .i64 0), .v (.string ⟨#[]⟩), .v (.int .i64 0), .v (.bool false)], .b true 149 rowsSC] [(0, .c (.v (.int .i64 n))), (2, .c (.p 0 0)), (6, .c (.s 1 0 22 22)), (7, .c (.v (.int .i64 22))), (8, .c (.v (.int .i64 19)))] (by kernel_rfl) (by decide) (by kernel_rfl) (by kernel_rfl) (fun _ => (by kernel_rfl)) (fun u => ofJ19 n w h1 h2 h3 h4 h5 h6 h7 h8 h9 h10 h11 h12 h13 h14 h15 h17 h18 h19 h20 b0 b1 u)
theorem ofJ17 (n : Int) (w : World) (h1 : n ≠ 1) (h2 : n ≠ 2) (h3 : n ≠ 3) (h4 : n ≠ 4) (h5 : n ≠ 5) (h6 : n ≠ 6) (h7 : n ≠ 7) (h8 : n ≠ 8) (h9 : n ≠ 9) (h10 : n ≠ 10) (h11 : n ≠ 11) (h12 : n ≠ 12) (h13 : n ≠ 13) (h14 : n ≠ 14) (h15 : n ≠ 15) (h17 : n ≠ 17) (h18 : n ≠ 18) (b0 b1 : Nat) (u : Nat → Value) : Hs Tryz.prog 66 (fun e w' => e = .returned (.tuple #[rowS n, .bool (isS n)]) ∧ Only [] w w') (Tryz.f66).ntmps w [] [b0, b1] ⟨.no, loopAt Tryz.f66 0, pins [(0, .c (.v (.int .i64 n))), (2, .c (.p 0 0)), (6, .c (.s 1 0 22 22)), (7, .c (.v (.int .i64 22))), (8, .c (.v (.int .i64 17)))] (.vals u), [.b true 149 [.v (.int .i64 0), .v (.string ⟨#[]⟩), .v (.int .i64 0), .v (.bool false)], .b true 149 rowsSC]⟩ := by
  refine Hs.run0 300 (fun _ => by kernel_rfl) ?_
  refine Hs.condT (by kernel_rfl) ?_
  refine Hs.run1 300 (fun _ => by kernel_rfl) fun b2 => ?_
  refine Hs.cond ((19 : Int) == n) (by kernel_rfl) (fun h => ?_) (fun h => ?_)
  · obtain rfl : n = 19 := (by simpa using h : (19 : Int) = n).symm
    refine Hs.run0 300 (fun _ => by kernel_rfl) ?_
    exact Hs.ret (v := .tuple #[rowL 19, .bool true]) Tryz.func66 (by kernel_rfl) fun w' H => ⟨by rw [rowS_eq]; rfl, H.only⟩
  have h19 : n ≠ 19 := fun e => by rw [e] at h; simp at h
  refine Hs.run0 300 (fun _ => by kernel_rfl) ?_
  refine Hs.loop (by kernel_rfl) ?_
  exact Hs.goto (loopAt Tryz.f66 0) [0, 1] [.b true 149 [.v (.int .i64 0), .v (.string ⟨#[]⟩), .v (.int .i64 0), .v (.bool false)], .b true 149 rowsSC] [(0, .c (.v (.int .i64 n))), (2, .c (.p 0 0)), (6, .c (.s 1 0 22 22)), (7, .c (.v (.int .i64 22))), (8, .c (.v (.int .i64 18)))] (by kernel_rfl) (by decide) (by kernel_rfl) (by kernel_rfl) (fun _ => (by kernel_rfl)) (fun u => ofJ18 n w h1 h2 h3 h4 h5 h6 h7 h8 h9 h10 h11 h12 h13 h14 h15 h17 h18 h19 b0 b1 u)
theorem ofJ16 (n : Int) (w : World) (h1 : n ≠ 1) (h2 : n ≠ 2) (h3 : n ≠ 3) (h4 : n ≠ 4) (h5 : n ≠ 5) (h6 : n ≠ 6) (h7 : n ≠ 7) (h8 : n ≠ 8) (h9 : n ≠ 9) (h10 : n ≠ 10) (h11 : n ≠ 11) (h12 : n ≠ 12) (h13 : n ≠ 13) (h14 : n ≠ 14) (h15 : n ≠ 15) (h17 : n ≠ 17) (b0 b1 : Nat) (u : Nat → Value) : Hs Tryz.prog 66 (fun e w' => e = .returned (.tuple #[rowS n, .bool (isS n)]) ∧ Only [] w w') (Tryz.f66).ntmps w [] [b0, b1] ⟨.no, loopAt Tryz.f66 0, pins [(0, .c (.v (.int .i64 n))), (2, .c (.p 0 0)), (6, .c (.s 1 0 22 22)), (7, .c (.v (.int .i64 22))), (8, .c (.v (.int .i64 16)))] (.vals u), [.b true 149 [.v (.int .i64 0), .v (.string ⟨#[]⟩), .v (.int .i64 0), .v (.bool false)], .b true 149 rowsSC]⟩ := by
  refine Hs.run0 300 (fun _ => by kernel_rfl) ?_
  refine Hs.condT (by kernel_rfl) ?_
  refine Hs.run1 300 (fun _ => by kernel_rfl) fun b2 => ?_
  refine Hs.cond ((18 : Int) == n) (by kernel_rfl) (fun h => ?_) (fun h => ?_)
  · obtain rfl : n = 18 := (by simpa using h : (18 : Int) = n).symm
    refine Hs.run0 300 (fun _ => by kernel_rfl) ?_
    exact Hs.ret (v := .tuple #[rowL 18, .bool true]) Tryz.func66 (by kernel_rfl) fun w' H => ⟨by rw [rowS_eq]; rfl, H.only⟩
  have h18 : n ≠ 18 := fun e => by rw [e] at h; simp at h
  refine Hs.run0 300 (fun _ => by kernel_rfl) ?_
  refine Hs.loop (by kernel_rfl) ?_
  exact Hs.goto (loopAt Tryz.f66 0) [0, 1] [.b true 149 [.v (.int .i64 0), .v (.string ⟨#[]⟩), .v (.int .i64 0), .v (.bool false)], .b true 149 rowsSC] [(0, .c (.v (.int .i64 n))), (2, .c (.p 0 0)), (6, .c (.s 1 0 22 22)), (7, .c (.v (.int .i64 22))), (8, .c (.v (.int .i64 17)))] (by kernel_rfl) (by decide) (by kernel_rfl) (by kernel_rfl) (fun _ => (by kernel_rfl)) (fun u => ofJ17 n w h1 h2 h3 h4 h5 h6 h7 h8 h9 h10 h11 h12 h13 h14 h15 h17 h18 b0 b1 u)
theorem ofJ15 (n : Int) (w : World) (h1 : n ≠ 1) (h2 : n ≠ 2) (h3 : n ≠ 3) (h4 : n ≠ 4) (h5 : n ≠ 5) (h6 : n ≠ 6) (h7 : n ≠ 7) (h8 : n ≠ 8) (h9 : n ≠ 9) (h10 : n ≠ 10) (h11 : n ≠ 11) (h12 : n ≠ 12) (h13 : n ≠ 13) (h14 : n ≠ 14) (h15 : n ≠ 15) (b0 b1 : Nat) (u : Nat → Value) : Hs Tryz.prog 66 (fun e w' => e = .returned (.tuple #[rowS n, .bool (isS n)]) ∧ Only [] w w') (Tryz.f66).ntmps w [] [b0, b1] ⟨.no, loopAt Tryz.f66 0, pins [(0, .c (.v (.int .i64 n))), (2, .c (.p 0 0)), (6, .c (.s 1 0 22 22)), (7, .c (.v (.int .i64 22))), (8, .c (.v (.int .i64 15)))] (.vals u), [.b true 149 [.v (.int .i64 0), .v (.string ⟨#[]⟩), .v (.int .i64 0), .v (.bool false)], .b true 149 rowsSC]⟩ := by
  refine Hs.run0 300 (fun _ => by kernel_rfl) ?_
  refine Hs.condT (by kernel_rfl) ?_
  refine Hs.run1 300 (fun _ => by kernel_rfl) fun b2 => ?_
  refine Hs.cond ((17 : Int) == n) (by kernel_rfl) (fun h => ?_) (fun h => ?_)
  · obtain rfl : n = 17 := (by simpa using h : (17 : Int) = n).symm
    refine Hs.run0 300 (fun _ => by kernel_rfl) ?_
    exact Hs.ret (v := .tuple #[rowL 17, .bool true]) Tryz.func66 (by kernel_rfl) fun w' H => ⟨by rw [rowS_eq]; rfl, H.only⟩
  have h17 : n ≠ 17 := fun e => by rw [e] at h; simp at h
  refine Hs.run0 300 (fun _ => by kernel_rfl) ?_
  refine Hs.loop (by kernel_rfl) ?_
  exact Hs.goto (loopAt Tryz.f66 0) [0, 1] [.b true 149 [.v (.int .i64 0), .v (.string ⟨#[]⟩), .v (.int .i64 0), .v (.bool false)], .b true 149 rowsSC] [(0, .c (.v (.int .i64 n))), (2, .c (.p 0 0)), (6, .c (.s 1 0 22 22)), (7, .c (.v (.int .i64 22))), (8, .c (.v (.int .i64 16)))] (by kernel_rfl) (by decide) (by kernel_rfl) (by kernel_rfl) (fun _ => (by kernel_rfl)) (fun u => ofJ16 n w h1 h2 h3 h4 h5 h6 h7 h8 h9 h10 h11 h12 h13 h14 h15 h17 b0 b1 u)
theorem ofJ14 (n : Int) (w : World) (h1 : n ≠ 1) (h2 : n ≠ 2) (h3 : n ≠ 3) (h4 : n ≠ 4) (h5 : n ≠ 5) (h6 : n ≠ 6) (h7 : n ≠ 7) (h8 : n ≠ 8) (h9 : n ≠ 9) (h10 : n ≠ 10) (h11 : n ≠ 11) (h12 : n ≠ 12) (h13 : n ≠ 13) (h14 : n ≠ 14) (b0 b1 : Nat) (u : Nat → Value) : Hs Tryz.prog 66 (fun e w' => e = .returned (.tuple #[rowS n, .bool (isS n)]) ∧ Only [] w w') (Tryz.f66).ntmps w [] [b0, b1] ⟨.no, loopAt Tryz.f66 0, pins [(0, .c (.v (.int .i64 n))), (2, .c (.p 0 0)), (6, .c (.s 1 0 22 22)), (7, .c (.v (.int .i64 22))), (8, .c (.v (.int .i64 14)))] (.vals u), [.b true 149 [.v (.int .i64 0), .v (.string ⟨#[]⟩), .v (.int .i64 0), .v (.bool false)], .b true 149 rowsSC]⟩ := by
  refine Hs.run0 300 (fun _ => by kernel_rfl) ?_
  refine Hs.condT (by kernel_rfl) ?_
  refine Hs.run1 300 (fun _ => by kernel_rfl) fun b2 => ?_
  refine Hs.cond ((15 : Int) == n) (by kernel_rfl) (fun h => ?_) (fun h => ?_)
  · obtain rfl : n = 15 := (by simpa using h : (15 : Int) = n).symm
    refine Hs.run0 300 (fun _ => by kernel_rfl) ?_
    exact Hs.ret (v := .tuple #[rowL 15, .bool true]) Tryz.func66 (by kernel_rfl) fun w' H => ⟨by rw [rowS_eq]; rfl, H.only⟩
  have h15 : n ≠ 15 := fun e => by rw [e] at h; simp at h
  refine Hs.run0 300 (fun _ => by kernel_rfl) ?_
  refine Hs.loop (by kernel_rfl) ?_
  exact Hs.goto (loopAt Tryz.f66 0) [0, 1] [.b true 149 [.v (.int .i64 0), .v (.string ⟨#[]⟩), .v (.int .i64 0), .v (.bool false)], .b true 149 rowsSC] [(0, .c (.v (.int .i64 n))), (2, .c (.p 0 0)), (6, .c (.s 1 0 22 22)), (7, .c (.v (.int .i64 22))), (8, .c (.v (.int .i64 15)))] (by kernel_rfl) (by decide) (by kernel_rfl) (by kernel_rfl) (fun _ => (by kernel_rfl)) (fun u => ofJ15 n w h1 h2 h3 h4 h5 h6 h7 h8 h9 h10 h11 h12 h13 h14 h15 b0 b1 u)
theorem ofJ13 (n : Int) (w : World) (h1 : n ≠ 1) (h2 : n ≠ 2) (h3 : n ≠ 3) (h4 : n ≠ 4) (h5 : n ≠ 5) (h6 : n ≠ 6) (h7 : n ≠ 7) (h8 : n ≠ 8) (h9 : n ≠ 9) (h10 : n ≠ 10) (h11 : n ≠ 11) (h12 : n ≠ 12) (h13 : n ≠ 13) (b0 b1 : Nat) (u : Nat → Value) : Hs Tryz.prog 66 (fun e w' => e = .returned (.tuple #[rowS n, .bool (isS n)]) ∧ Only [] w w') (Tryz.f66).ntmps w [] [b0, b1] ⟨.no, loopAt Tryz.f66 0, pins [(0, .c (.v (.int .i64 n))), (2, .c (.p 0 0)), (6, .c (.s 1 0 22 22)), (7, .c (.v (.int .i64 22))), (8, .c (.v (.int .i64 13)))] (.vals u), [.b true 149 [.v (.int .i64 0), .v (.string ⟨#[]⟩), .v (.int .i64 0), .v (.bool false)], .b true 149 rowsSC]⟩ := by
  refine Hs.run0 300 (fun _ => by kernel_rfl) ?_
  refine Hs.condT (by kernel_rfl) ?_
  refine Hs.run1 300 (fun _ => by kernel_rfl) fun b2 => ?_
  refine Hs.cond ((14 : Int) == n) (by kernel_rfl) (fun h => ?_) (fun h => ?_)
  · obtain rfl : n = 14 := (by simpa using h : (14 : Int) = n).symm
    refine Hs.run0 300 (fun _ => by kernel_rfl) ?_
    exact Hs.ret (v := .tuple #[rowL 14, .bool true]) Tryz.func66 (by kernel_rfl) fun w' H => ⟨by rw [rowS_eq]; rfl, H.only⟩
  have h14 : n ≠ 14 := fun e => by rw [e] at h; simp at h
  refine Hs.run0 300 (fun _ => by kernel_rfl) ?_
  refine Hs.loop (by kernel_rfl) ?_
  exact Hs.goto (loopAt Tryz.f66 0) [0, 1] [.b true 149 [.v (.int .i64 0), .v (.string ⟨#[]⟩), .v (.int .i64 0), .v (.bool false)], .b true 149 rowsSC] [(0, .c (.v (.int .i64 n))), (2, .c (.p 0 0)), (6, .c (.s 1 0 22 22)), (7, .c (.v (.int .i64 22))), (8, .c (.v (.int .i64 14)))] (by kernel_rfl) (by decide) (by kernel_rfl) (by kernel_rfl) (fun _ => (by kernel_rfl)) (fun u => ofJ14 n w h1 h2 h3 h4 h5 h6 h7 h8 h9 h10 h11 h12 h13 h14 b0 b1 u)
theorem ofJ12 (n : Int) (w : World) (h1 : n ≠ 1) (h2 : n ≠ 2) (h3 : n ≠ 3) (h4 : n ≠ 4) (h5 : n ≠ 5) (h6 : n ≠ 6) (h7 : n ≠ 7) (h8 : n ≠ 8) (h9 : n ≠ 9) (h10 : n ≠ 10) (h11 : n ≠ 11) (h12 : n ≠ 12) (b0 b1 : Nat) (u : Nat → Value) : Hs Tryz.prog 66 (fun e w' => e = .returned (.tuple #[rowS n, .bool (isS n)]) ∧ Only [] w w') (Tryz.f66).ntmps w [] [b0, b1] ⟨.no, loopAt Tryz.f66 0, pins [(0, .c (.v (.int .i64 n))), (2, .c (.p 0 0)), (6, .c (.s 1 0 22 22)), (7, .c (.v (.int .i64 22))), (8, .c (.v (.int .i64 12)))] (.vals u), [.b true 149 [.v (.int .i64 0), .v (.string ⟨#[]⟩), .v (.int .i64 0), .v (.bool false)], .b true 149 rowsSC]⟩ := by
  refine Hs.run0 300 (fun _ => by kernel_rfl) ?_
  refine Hs.condT (by kernel_rfl) ?_
  refine Hs.run1 300 (fun _ => by kernel_rfl) fun b2 => ?_
  refine Hs.cond ((13 : Int) == n) (by kernel_rfl) (fun h => ?_) (fun h => ?_)
  · obtain rfl : n = 13 := (by simpa using h : (13 : Int) = n).symm
    refine Hs.run0 300 (fun _ => by kernel_rfl) ?_
    exact Hs.ret (v := .tuple #[rowL 13, .bool true]) Tryz.func66 (by kernel_rfl) fun w' H => ⟨by rw [rowS_eq]; rfl, H.only⟩
  have h13 : n ≠ 13 := fun e => by rw [e] at h; simp at h
  refine Hs.run0 300 (fun _ => by kernel_rfl) ?_
  refine Hs.loop (by kernel_rfl) ?_
  exact Hs.goto (loopAt Tryz.f66 0) [0, 1] [.b true 149 [.v (.int .i64 0), .v (.string ⟨#[]⟩), .v (.int .i64 0), .v (.bool false)], .b true 149 rowsSC] [(0, .c (.v (.int .i64 n))), (2, .c (.p 0 0)), (6, .c (.s 1 0 22 22)), (7, .c (.v (.int .i64 22))), (8, .c (.v (.int .i64 13)))] (by kernel_rfl) (by decide) (by kernel_rfl) (by kernel_rfl) (fun _ => (by kernel_rfl)) (fun u => ofJ13 n w h1 h2 h3 h4 h5 h6 h7 h8 h9 h10 h11 h12 h13 b0 b1 u)
theorem ofJ11 (n : Int) (w : World) (h1 : n ≠ 1) (h2 : n ≠ 2) (h3 : n ≠ 3) (h4 : n ≠ 4) (h5 : n ≠ 5) (h6 : n ≠ 6) (h7 : n ≠ 7) (h8 : n ≠ 8) (h9 : n ≠ 9) (h10 : n ≠ 10) (h11 : n ≠ 11) (b0 b1 : Nat) (u : Nat → Value) : Hs Tryz.prog 66 (fun e w' => e = .returned (.tuple #[rowS n, .bool (isS n)]) ∧ Only [] w w') (Tryz.f66).ntmps w [] [b0, b1] ⟨.no, loopAt Tryz.f66 0, pins [(0, .c (.v (.int .i64 n))), (2, .c (.p 0 0)), (6, .c (.s 1 0 22 22)), (7, .c (.v (.int .i64 22))), (8, .c (.v (.int .i64 11)))] (.vals u), [.b true 149 [.v (.int .i64 0), .v (.string ⟨#[]⟩), .v (.int .i64 0), .v (.bool false)], .b true 149 rowsSC]⟩ := by
  refine Hs.run0 300 (fun _ => by kernel_rfl) ?_
  refine Hs.condT (by kernel_rfl) ?_
  refine Hs.run1 300 (fun _ => by kernel_rfl) fun b2 => ?_
  refine Hs.cond ((12 : Int) == n) (by kernel_rfl) (fun h => ?_) (fun h => ?_)
  · obtain rfl : n = 12 := (by simpa using h : (12 : Int) = n).symm
    refine Hs.run0 300 (fun _ => by kernel_rfl) ?_
    exact Hs.ret (v := .tuple #[rowL 12, .bool true]) Tryz.func66 (by kernel_rfl) fun w' H => ⟨by rw [rowS_eq]; rfl, H.only⟩
  have h12 : n ≠ 12 := fun e => by rw [e] at h; simp at h
  refine Hs.run0 300 (fun _ => by kernel_rfl) ?_
  refine Hs.loop (by kernel_rfl) ?_
  exact Hs.goto (loopAt Tryz.f66 0) [0, 1] [.b true 149 [.v (.int .i64 0), .v (.string ⟨#[]⟩), .v (.int .i64 0), .v (.bool false)], .b true 149 rowsSC] [(0, .c (.v (.int .i64 n))), (2, .c (.p 0 0)), (6, .c (.s 1 0 22 22)), (7, .c (.v (.int .i64 22))), (8, .c (.v (.int .i64 12)))] (by kernel_rfl) (by decide) (by kernel_rfl) (by kernel_rfl) (fun _ => (by kernel_rfl)) (fun u => ofJ12 n w h1 h2 h3 h4 h5 h6 h7 h8 h9 h10 h11 h12 b0 b1 u)
theorem ofJ10 (n : Int) (w : World) (h1 : n ≠ 1) (h2 : n ≠ 2) (h3 : n ≠ 3) (h4 : n ≠ 4) (h5 : n ≠ 5) (h6 : n ≠ 6) (h7 : n ≠ 7) (h8 : n ≠ 8) (h9 : n ≠ 9) (h10 : n ≠ 10) (b0 b1 : Nat) (u : Nat → Value) : Hs Tryz.prog 66 (fun e w' => e = .returned (.tuple #[rowS n, .bool (isS n)]) ∧ Only [] w w') (Tryz.f66).ntmps w [] [b0, b1] ⟨.no, loopAt Tryz.f66 0, pins [(0, .c (.v (.int .i64 n))), (2, .c (.p 0 0)), (6, .c (.s 1 0 22 22)), (7, .c (.v (.int .i64 22))), (8, .c (.v (.int .i64 10)))] (.vals u), [.b true 149 [.v (.int .i64 0), .v (.string ⟨#[]⟩), .v (.int .i64 0), .v (.bool false)], .b true 149 rowsSC]⟩ := by
  refine Hs.run0 300 (fun _ => by kernel_rfl) ?_
  refine Hs.condT (by kernel_rfl) ?_
  refine Hs.run1 300 (fun _ => by kernel_rfl) fun b2 => ?_
  refine Hs.cond ((11 : Int) == n) (by kernel_rfl) (fun h => ?_) (fun h => ?_)
  · obtain rfl : n = 11 := (by simpa using h : (11 : Int) = n).symm
    refine Hs.run0 300 (fun _ => by kernel_rfl) ?_
    exact Hs.ret (v := .tuple #[rowL 11, .bool true]) Tryz.func66 (by kernel_rfl) fun w' H => ⟨by rw [rowS_eq]; rfl, H.only⟩
  have h11 : n ≠ 11 := fun e => by rw [e] at h; simp at h
  refine Hs.run0 300 (fun _ => by kernel_rfl) ?_
  refine Hs.loop (by kernel_rfl) ?_
  exact Hs.goto (loopAt Tryz.f66 0) [0, 1] [.b true 149 [.v (.int .i64 0), .v (.string ⟨#[]⟩), .v (.int .i64 0), .v (.bool false)], .b true 149 rowsSC] [(0, .c (.v (.int .i64 n))), (2, .c (.p 0 0)), (6, .c (.s 1 0 22 22)), (7, .c (.v (.int .i64 22))), (8, .c (.v (.int .i64 11)))] (by kernel_rfl) (by decide) (by kernel_rfl) (by kernel_rfl) (fun _ => (by kernel_rfl)) (fun u => ofJ11 n w h1 h2 h3 h4 h5 h6 h7 h8 h9 h10 h11 b0 b1 u)
theorem ofJ9 (n : Int) (w : World) (h1 : n ≠ 1) (h2 : n ≠ 2) (h3 : n ≠ 3) (h4 : n ≠ 4) (h5 : n ≠ 5) (h6 : n ≠ 6) (h7 : n ≠ 7) (h8 : n ≠ 8) (h9 : n ≠ 9) (b0 b1 : Nat) (u : Nat → Value) : Hs Tryz.prog 66 (fun e w' => e = .returned (.tuple #[rowS n, .bool (isS n)]) ∧ Only [] w w') (Tryz.f66).ntmps w [] [b0, b1] ⟨.no, loopAt Tryz.f66 0, pins [(0, .c (.v (.int .i64 n))), (2, .c (.p 0 0)), (6, .c (.s 1 0 22 22)), (7, .c (.v (.int .i64 22))), (8, .c (.v (.int .i64 9)))] (.vals u), [.b true 149 [.v (.int .i64 0), .v (.string ⟨#[]⟩), .v (.int .i64 0), .v (.bool false)], .b true 149 rowsSC]⟩ := by
  refine Hs.run0 300 (fun _ => by kernel_rfl) ?_
  refine Hs.condT (by kernel_rfl) ?_
  refine Hs.run1 300 (fun _ => by kernel_rfl) fun b2 => ?_
  refine Hs.cond ((10 : Int) == n) (by kernel_rfl) (fun h => ?_) (fun h => ?_)
  · obtain rfl : n = 10 := (by simpa using h : (10 : Int) = n).symm
    refine Hs.run0 300 (fun _ => by kernel_rfl) ?_
    exact Hs.ret (v := .tuple #[rowL 10, .bool true]) Tryz.func66 (by kernel_rfl) fun w' H => ⟨by rw [rowS_eq]; rfl, H.only⟩
  have h10 : n ≠ 10 := fun e => by rw [e] at h; simp at h
  refine Hs.run0 300 (fun _ => by kernel_rfl) ?_
  refine Hs.loop (by kernel_rfl) ?_
  exact Hs.goto (loopAt Tryz.f66 0) [0, 1] [.b true 149 [.v (.int .i64 0), .v (.string ⟨#[]⟩), .v (.int .i64 0), .v (.bool false)], .b true 149 rowsSC] [(0, .c (.v (.int .i64 n))), (2, .c (.p 0 0)), (6, .c (.s 1 0 22 22)), (7, .c (.v (.int .i64 22))), (8, .c (.v (.int .i64 10)))] (by kernel_rfl) (by decide) (by kernel_rfl) (by kernel_rfl) (fun _ => (by kernel_rfl)) (fun u => ofJ10 n w h1 h2 h3 h4 h5 h6 h7 h8 h9 h10 b0 b1 u)
theorem ofJ8 (n : Int) (w : World) (h1 : n ≠ 1) (h2 : n ≠ 2) (h3 : n ≠ 3) (h4 : n ≠ 4) (h5 : n ≠ 5) (h6 : n ≠ 6) (h7 : n ≠ 7) (h8 : n ≠ 8) (b0 b1 : Nat) (u : Nat → Value) : Hs Tryz.prog 66 (fun e w' => e = .returned (.tuple #[rowS n, .bool (isS n)]) ∧ Only [] w w') (Tryz.f66).ntmps w [] [b0, b1] ⟨.no, loopAt Tryz.f66 0, pins [(0, .c (.v (.int .i64 n))), (2, .c (.p 0 0)), (6, .c (.s 1 0 22 22)), (7, .c (.v (.int .i64 22))), (8, .c (.v (.int .i64 8)))] (.vals u), [.b true 149 [.v (.int .i64 0), .v (.string ⟨#[]⟩), .v (.int .i64 0), .v (.bool false)], .b true 149 rowsSC]⟩ := by
  refine Hs.run0 300 (fun _ => by kernel_rfl) ?_
  refine Hs.condT (by kernel_rfl) ?_
  refine Hs.run1 300 (fun _ => by kernel_rfl) fun b2 => ?_
  refine Hs.cond ((9 : Int) == n) (by kernel_rfl) (fun h => ?_) (fun h => ?_)
  · obtain rfl : n = 9 := (by simpa using h : (9 : Int) = n).symm
    refine Hs.run0 300 (fun _ => by kernel_rfl) ?_
    exact Hs.ret (v := .tuple #[rowL 9, .bool true]) Tryz.func66 (by kernel_rfl) fun w' H => ⟨by rw [rowS_eq]; rfl, H.only⟩
  have h9 : n ≠ 9 := fun e => by rw [e] at h; simp at h
  refine Hs.run0 300 (fun _ => by kernel_rfl) ?_
  refine Hs.loop (by kernel_rfl) ?_
  exact Hs.goto (loopAt Tryz.f66 0) [0, 1] [.b true 149 [.v (.int .i64 0), .v (.string ⟨#[]⟩), .v (.int .i64 0), .v (.bool false)], .b true 149 rowsSC] [(0, .c (.v (.int .i64 n))), (2, .c (.p 0 0)), (6, .c (.s 1 0 22 22)), (7, .c (.v (.int .i64 22))), (8, .c (.v (.int .i64 9)))] (by kernel_rfl) (by decide) (by kernel_rfl) (by kernel_rfl) (fun _ => (by kernel_rfl)) (fun u => ofJ9 n w h1 h2 h3 h4 h5 h6 h7 h8 h9 b0 b1 u)
theorem ofJ7 (n : Int) (w : World) (h1 : n ≠ 1) (h2 : n ≠ 2) (h3 : n ≠ 3) (h4 : n ≠ 4) (h5 : n ≠ 5) (h6 : n ≠ 6) (h7 : n ≠ 7) (b0 b1 : Nat) (u : Nat → Value) : Hs Tryz.prog 66 (fun e w' => e = .returned (.tuple #[rowS n, .bool (isS n)]) ∧ Only [] w w') (Tryz.f66).ntmps w [] [b0, b1] ⟨.no, loopAt Tryz.f66 0, pins [(0, .c (.v (.int .i64 n))), (2, .c (.p 0 0)), (6, .c (.s 1 0 22 22)), (7, .c (.v (.int .i64 22))), (8, .c (.v (.int .i64 7)))] (.vals u), [.b true 149 [.v (.int .i64 0), .v (.string ⟨#[]⟩), .v (.int .i64 0), .v (.bool false)], .b true 149 rowsSC]⟩ := by
  refine Hs.run0 300 (fun _ => by kernel_rfl) ?_
  refine Hs.condT (by kernel_rfl) ?_
  refine Hs.run1 300 (fun _ => by kernel_rfl) fun b2 => ?_
  refine Hs.cond ((8 : Int) == n) (by kernel_rfl) (fun h => ?_) (fun h => ?_)
  · obtain rfl : n = 8 := (by simpa using h : (8 : Int) = n).symm
    refine Hs.run0 300 (fun _ => by kernel_rfl) ?_
    exact Hs.ret (v := .tuple #[rowL 8, .bool true]) Tryz.func66 (by kernel_rfl) fun w' H => ⟨by rw [rowS_eq]; rfl, H.only⟩
  have h8 : n ≠ 8 := fun e => by rw [e] at h; simp at h
  refine Hs.run0 300 (fun _ => by kernel_rfl) ?_
  refine Hs.loop (by kernel_rfl) ?_
  exact Hs.goto (loopAt Tryz.f66 0) [0, 1] [.b true 149 [.v (.int .i64 0), .v (.string ⟨#[]⟩), .v (.int .i64 0), .v (.bool false)], .b true 149 rowsSC] [(0, .c (.v (.int .i64 n))), (2, .c (.p 0 0)), (6, .c (.s 1 0 22 22)), (7, .c (.v (.int .i64 22))), (8, .c (.v (.int .i64 8)))] (by kernel_rfl) (by decide) (by kernel_rfl) (by kernel_rfl) (fun _ => (by kernel_rfl)) (fun u => ofJ8 n w h1 h2 h3 h4 h5 h6 h7 h8 b0 b1 u)
theorem ofJ6 (n : Int) (w : World) (h1 : n ≠ 1) (h2 : n ≠ 2) (h3 : n ≠ 3) (h4 : n ≠ 4) (h5 : n ≠ 5) (h6 : n ≠ 6) (b0 b1 : Nat) (u : Nat → Value) : Hs Tryz.prog 66 (fun e w' => e = .returned (.tuple #[rowS n, .bool (isS n)]) ∧ Only [] w w') (Tryz.f66).ntmps w [] [b0, b1] ⟨.no, loopAt Tryz.f66 0, pins [(0, .c (.v (.int .i64 n))), (2, .c (.p 0 0)), (6, .c (.s 1 0 22 22)), (7, .c (.v (.int .i64 22))), (8, .c (.v (.int .i64 6)))] (.vals u), [.b true 149 [.v (.int .i64 0), .v (.string ⟨#[]⟩), .v (.int .i64 0), .v (.bool false)], .b true 149 rowsSC]⟩ := by
  refine Hs.run0 300 (fun _ => by kernel_rfl) ?_
  refine Hs.condT (by kernel_rfl) ?_
  refine Hs.run1 300 (fun _ => by kernel_rfl) fun b2 => ?_
  refine Hs.cond ((7 : Int) == n) (by kernel_rfl) (fun h => ?_) (fun h => ?_)
  · obtain rfl : n = 7 := (by simpa using h : (7 : Int) = n).symm
    refine Hs.run0 300 (fun _ => by kernel_rfl) ?_
    exact Hs.ret (v := .tuple #[rowL 7, .bool true]) Tryz.func66 (by kernel_rfl) fun w' H => ⟨by rw [rowS_eq]; rfl, H.only⟩
  have h7 : n ≠ 7 := fun e => by rw [e] at h; simp at h
  refine Hs.run0 300 (fun _ => by kernel_rfl) ?_
  refine Hs.loop (by kernel_rfl) ?_
  exact Hs.goto (loopAt Tryz.f66 0) [0, 1] [.b true 149 [.v (.int .i64 0), .v (.string ⟨#[]⟩), .v (.int .i64 0), .v (.bool false)], .b true 149 rowsSC] [(0, .c (.v (.int .i64 n))), (2, .c (.p 0 0)), (6, .c (.s 1 0 22 22)), (7, .c (.v (.int .i64 22))), (8, .c (.v (.int .i64 7)))] (by kernel_rfl) (by decide) (by kernel_rfl) (by kernel_rfl) (fun _ => (by kernel_rfl)) (fun u => ofJ7 n w h1 h2 h3 h4 h5 h6 h7 b0 b1 u)
theorem ofJ5 (n : Int) (w : World) (h1 : n ≠ 1) (h2 : n ≠ 2) (h3 : n ≠ 3) (h4 : n ≠ 4) (h5 : n ≠ 5) (b0 b1 : Nat) (u : Nat → Value) : Hs Tryz.prog 66 (fun e w' => e = .returned (.tuple #[rowS n, .bool (isS n)]) ∧ Only [] w w') (Tryz.f66).ntmps w [] [b0, b1] ⟨.no, loopAt Tryz.f66 0, pins [(0, .c (.v (.int .i64 n))), (2, .c (.p 0 0)), (6, .c (.s 1 0 22 22)), (7, .c (.v (.int .i64 22))), (8, .c (.v (.int .i64 5)))] (.vals u), [.b true 149 [.v (.int .i64 0), .v (.string ⟨#[]⟩), .v (.int .i64 0), .v (.bool false)], .b true 149 rowsSC]⟩ := by
  refine Hs.run0 300 (fun _ => by kernel_rfl) ?_
  refine Hs.condT (by kernel_rfl) ?_
  refine Hs.run1 300 (fun _ => by kernel_rfl) fun b2 => ?_
  refine Hs.cond ((6 : Int) == n) (by kernel_rfl) (fun h => ?_) (fun h => ?_)
  · obtain rfl : n = 6 := (by simpa using h : (6 : Int) = n).symm
    refine Hs.run0 300 (fun _ => by kernel_rfl) ?_
    exact Hs.ret (v := .tuple #[rowL 6, .bool true]) Tryz.func66 (by kernel_rfl) fun w' H => ⟨by rw [rowS_eq]; rfl, H.only⟩
  have h6 : n ≠ 6 := fun e => by rw [e] at h; simp at h
  refine Hs.run0 300 (fun _ => by kernel_rfl) ?_
  refine Hs.loop (by kernel_rfl) ?_
  exact Hs.goto (loopAt Tryz.f66 0) [0, 1] [.b true 149 [.v (.int .i64 0), .v (.string ⟨#[]⟩), .v (.int .i64 0), .v (.bool false)], .b true 149 rowsSC] [(0, .c (.v (.int .i64 n))), (2, .c (.p 0 0)), (6, .c (.s 1 0 22 22)), (7, .c (.v (.int .i64 22))), (8, .c (.v (.int .i64 6)))] (by kernel_rfl) (by decide) (by kernel_rfl) (by kernel_rfl) (fun _ => (by kernel_rfl)) (fun u => ofJ6 n w h1 h2 h3 h4 h5 h6 b0 b1 u)
theorem ofJ4 (n : Int) (w : World) (h1 : n ≠ 1) (h2 : n ≠ 2) (h3 : n ≠ 3) (h4 : n ≠ 4) (b0 b1 : Nat) (u : Nat → Value) : Hs Tryz.prog 66 (fun e w' => e = .returned (.tuple #[rowS n, .bool (isS n)]) ∧ Only [] w w') (Tryz.f66).ntmps w [] [b0, b1] ⟨.no, loopAt Tryz.f66 0, pins [(0, .c (.v (.int .i64 n))), (2, .c (.p 0 0)), (6, .c (.s 1 0 22 22)), (7, .c (.v (.int .i64 22))), (8, .c (.v (.int .i64 4)))] (.vals u), [.b true 149 [.v (.int .i64 0), .v (.string ⟨#[]⟩), .v (.int .i64 0), .v (.bool false)], .b true 149 rowsSC]⟩ := by
  refine Hs.run0 300 (fun _ => by kernel_rfl) ?_
  refine Hs.condT (by kernel_rfl) ?_
  refine Hs.run1 300 (fun _ => by kernel_rfl) fun b2 => ?_
  refine Hs.cond ((5 : Int) == n) (by kernel_rfl) (fun h => ?_) (fun h => ?_)
  · obtain rfl : n = 5 := (by simpa using h : (5 : Int) = n).symm
    refine Hs.run0 300 (fun _ => by kernel_rfl) ?_
    exact Hs.ret (v := .tuple #[rowL 5, .bool true]) Tryz.func66 (by kernel_rfl) fun w' H => ⟨by rw [rowS_eq]; rfl, H.only⟩
  have h5 : n ≠ 5 := fun e => by rw [e] at h; simp at h
  refine Hs.run0 300 (fun _ => by kernel_rfl) ?_
  refine Hs.loop (by kernel_rfl) ?_
  exact Hs.goto (loopAt Tryz.f66 0) [0, 1] [.b true 149 [.v (.int .i64 0), .v (.string ⟨#[]⟩), .v (.int .i64 0), .v (.bool false)], .b true 149 rowsSC] [(0, .c (.v (.int .i64 n))), (2, .c (.p 0 0)), (6, .c (.s 1 0 22 22)), (7, .c (.v (.int .i64 22))), (8, .c (.v (.int .i64 5)))] (by kernel_rfl) (by decide) (by kernel_rfl) (by kernel_rfl) (fun _ => (by kernel_rfl)) (fun u => ofJ5 n w h1 h2 h3 h4 h5 b0 b1 u)
theorem ofJ3 (n : Int) (w : World) (h1 : n ≠ 1) (h2 : n ≠ 2) (h3 : n ≠ 3) (b0 b1 : Nat) (u : Nat → Value) : Hs Tryz.prog 66 (fun e w' => e = .returned (.tuple #[rowS n, .bool (isS n)]) ∧ Only [] w w') (Tryz.f66).ntmps w [] [b0, b1] ⟨.no, loopAt Tryz.f66 0, pins [(0, .c (.v (.int .i64 n))), (2, .c (.p 0 0)), (6, .c (.s 1 0 22 22)), (7, .c (.v (.int .i64 22))), (8, .c (.v (.int .i64 3)))] (.vals u), [.b true 149 [.v (.int .i64 0), .v (.string ⟨#[]⟩), .v (.int .i64 0), .v (.bool false)], .b true 149 rowsSC]⟩ := by
  refine Hs.run0 300 (fun _ => by kernel_rfl) ?_
  refine Hs.condT (by kernel_rfl) ?_
  refine Hs.run1 300 (fun _ => by kernel_rfl) fun b2 => ?_
  refine Hs.cond ((4 : Int) == n) (by kernel_rfl) (fun h => ?_) (fun h => ?_)
  · obtain rfl : n = 4 := (by simpa using h : (4 : Int) = n).symm
    refine Hs.run0 300 (fun _ => by kernel_rfl) ?_
    exact Hs.ret (v := .tuple #[rowL 4, .bool true]) Tryz.func66 (by kernel_rfl) fun w' H => ⟨by rw [rowS_eq]; rfl, H.only⟩
  have h4 : n ≠ 4 := fun e => by rw [e] at h; simp at h
  refine Hs.run0 300 (fun _ => by kernel_rfl) ?_
  refine Hs.loop (by kernel_rfl) ?_
  exact Hs.goto (loopAt Tryz.f66 0) [0, 1] [.b true 149 [.v (.int .i64 0), .v (.string ⟨#[]⟩), .v (.int .i64 0), .v (.bool false)], .b true 149 rowsSC] [(0, .c (.v (.int .i64 n))), (2, .c (.p 0 0)), (6, .c (.s 1 0 22 22)), (7, .c (.v (.int .i64 22))), (8, .c (.v (.int .i64 4)))] (by kernel_rfl) (by decide) (by kernel_rfl) (by kernel_rfl) (fun _ => (by kernel_rfl)) (fun u => ofJ4 n w h1 h2 h3 h4 b0 b1 u)
theorem ofJ2 (n : Int) (w : World) (h1 : n ≠ 1) (h2 : n ≠ 2) (b0 b1 : Nat) (u : Nat → Value) : Hs Tryz.prog 66 (fun e w' => e = .returned (.tuple #[rowS n, .bool (isS n)]) ∧ Only [] w w') (Tryz.f66).ntmps w [] [b0, b1] ⟨.no, loopAt Tryz.f66 0, pins [(0, .c (.v (.int .i64 n))), (2, .c (.p 0 0)), (6, .c (.s 1 0 22 22)), (7, .c (.v (.int .i64 22))), (8, .c (.v (.int .i64 2)))] (.vals u), [.b true 149 [.v (.int .i64 0), .v (.string ⟨#[]⟩), .v (.int .i64 0), .v (.bool false)], .b true 149 rowsSC]⟩ := by
  refine Hs.run0 300 (fun _ => by kernel_rfl) ?_
  refine Hs.condT (by kernel_rfl) ?_
  refine Hs.run1 300 (fun _ => by kernel_rfl) fun b2 => ?_
  refine Hs.cond ((3 : Int) == n) (by kernel_rfl) (fun h => ?_) (fun h => ?_)
  · obtain rfl : n = 3 := (by simpa using h : (3 : Int) = n).symm
    refine Hs.run0 300 (fun _ => by kernel_rfl) ?_
    exact Hs.ret (v := .tuple #[rowL 3, .bool true]) Tryz.func66 (by kernel_rfl) fun w' H => ⟨by rw [rowS_eq]; rfl, H.only⟩
  have h3 : n ≠ 3 := fun e => by rw [e] at h; simp at h
  refine Hs.run0 300 (fun _ => by kernel_rfl) ?_
  refine Hs.loop (by kernel_rfl) ?_
  exact Hs.goto (loopAt Tryz.f66 0) [0, 1] [.b true 149 [.v (.int .i64 0), .v (.string ⟨#[]⟩), .v (.int .i64 0), .v (.bool false)], .b true 149 rowsSC] [(0, .c (.v (.int .i64 n))), (2, .c (.p 0 0)), (6, .c (.s 1 0 22 22)), (7, .c (.v (.int .i64 22))), (8, .c (.v (.int .i64 3)))] (by kernel_rfl) (by decide) (by kernel_rfl) (by kernel_rfl) (fun _ => (by kernel_rfl)) (fun u => ofJ3 n w h1 h2 h3 b0 b1 u)
theorem ofJ1 (n : Int) (w : World) (h1 : n ≠ 1) (b0 b1 : Nat) (u : Nat → Value) : Hs Tryz.prog 66 (fun e w' => e = .returned (.tuple #[rowS n, .bool (isS n)]) ∧ Only [] w w') (Tryz.f66).ntmps w [] [b0, b1] ⟨.no, loopAt Tryz.f66 0, pins [(0, .c (.v (.int .i64 n))), (2, .c (.p 0 0)), (6, .c (.s 1 0 22 22)), (7, .c (.v (.int .i64 22))), (8, .c (.v (.int .i64 1)))] (.vals u), [.b true 149 [.v (.int .i64 0), .v (.string ⟨#[]⟩), .v (.int .i64 0), .v (.bool false)], .b true 149 rowsSC]⟩ := by
  refine Hs.run0 300 (fun _ => by kernel_rfl) ?_
  refine Hs.condT (by kernel_rfl) ?_
  refine Hs.run1 300 (fun _ => by kernel_rfl) fun b2 => ?_
  refine Hs.cond ((2 : Int) == n) (by kernel_rfl) (fun h => ?_) (fun h => ?_)
  · obtain rfl : n = 2 := (by simpa using h : (2 : Int) = n).symm
    refine Hs.run0 300 (fun _ => by kernel_rfl) ?_
    exact Hs.ret (v := .tuple #[rowL 2, .bool true]) Tryz.func66 (by kernel_rfl) fun w' H => ⟨by rw [rowS_eq]; rfl, H.only⟩
  have h2 : n ≠ 2 := fun e => by rw [e] at h; simp at h
  refine Hs.run0 300 (fun _ => by kernel_rfl) ?_
  refine Hs.loop (by kernel_rfl) ?_
  exact Hs.goto (loopAt Tryz.f66 0) [0, 1] [.b true 149 [.v (.int .i64 0), .v (.string ⟨#[]⟩), .v (.int .i64 0), .v (.bool false)], .b true 149 rowsSC] [(0, .c (.v (.int .i64 n))), (2, .c (.p 0 0)), (6, .c (.s 1 0 22 22)), (7, .c (.v (.int .i64 22))), (8, .c (.v (.int .i64 2)))] (by kernel_rfl) (by decide) (by kernel_rfl) (by kernel_rfl) (fun _ => (by kernel_rfl)) (fun u => ofJ2 n w h1 h2 b0 b1 u)
theorem ofJ0 (n : Int) (w : World) (b0 b1 : Nat) (u : Nat → Value) : Hs Tryz.prog 66 (fun e w' => e = .returned (.tuple #[rowS n, .bool (isS n)]) ∧ Only [] w w') (Tryz.f66).ntmps w [] [b0, b1] ⟨.no, loopAt Tryz.f66 0, pins [(0, .c (.v (.int .i64 n))), (2, .c (.p 0 0)), (6, .c (.s 1 0 22 22)), (7, .c (.v (.int .i64 22))), (8, .c (.v (.int .i64 0)))] (.vals u), [.b true 149 [.v (.int .i64 0), .v (.string ⟨#[]⟩), .v (.int .i64 0), .v (.bool false)], .b true 149 rowsSC]⟩ := by
  refine Hs.run0 300 (fun _ => by kernel_rfl) ?_
  refine Hs.condT (by kernel_rfl) ?_
  refine Hs.run1 300 (fun _ => by kernel_rfl) fun b2 => ?_
  refine Hs.cond ((1 : Int) == n) (by kernel_rfl) (fun h => ?_) (fun h => ?_)
  · obtain rfl : n = 1 := (by simpa using h : (1 : Int) = n).symm
    refine Hs.run0 300 (fun _ => by kernel_rfl) ?_
    exact Hs.ret (v := .tuple #[rowL 1, .bool true]) Tryz.func66 (by kernel_rfl) fun w' H => ⟨by rw [rowS_eq]; rfl, H.only⟩
  have h1 : n ≠ 1 := fun e => by rw [e] at h; simp at h
  refine Hs.run0 300 (fun _ => by kernel_rfl) ?_
  refine Hs.loop (by kernel_rfl) ?_
  exact Hs.goto (loopAt Tryz.f66 0) [0, 1] [.b true 149 [.v (.int .i64 0), .v (.string ⟨#[]⟩), .v (.int .i64 0), .v (.bool false)], .b true 149 rowsSC] [(0, .c (.v (.int .i64 n))), (2, .c (.p 0 0)), (6, .c (.s 1 0 22 22)), (7, .c (.v (.int .i64 22))), (8, .c (.v (.int .i64 1)))] (by kernel_rfl) (by decide) (by kernel_rfl) (by kernel_rfl) (fun _ => (by kernel_rfl)) (fun u => ofJ1 n w h1 b0 b1 u)
theorem of_any18 (n : Int) (w : World) : Calls Tryz.prog 66 #[.int .i64 n] w fun e w' => e = .returned (.tuple #[rowS n, .bool (isS n)]) ∧ Only [] w w' := by
  refine Hs.enter Tryz.func66 [] [] [] [.c (.v (.int .i64 n))] (Mem.start0 w) (by kernel_rfl) (by kernel_rfl) ?_
  refine Hs.run1 300 (fun _ => by kernel_rfl) fun b0 => ?_
  refine Hs.inl Tryz.func65 [] (by kernel_rfl) (by kernel_rfl) ?_
  refine Hs.run1 300 (fun _ => by kernel_rfl) fun b1 => ?_
  refine Hs.retI Tryz.func65 (by kernel_rfl) (by kernel_rfl) (by kernel_rfl) ?_
  refine Hs.run0 300 (fun _ => by kernel_rfl) ?_
  refine Hs.loop (by kernel_rfl) ?_
  exact Hs.goto (loopAt Tryz.f66 0) [0, 1] [.b true 149 [.v (.int .i64 0), .v (.string ⟨#[]⟩), .v (.int .i64 0), .v (.bool false)], .b true 149 rowsSC] [(0, .c (.v (.int .i64 n))), (2, .c (.p 0 0)), (6, .c (.s 1 0 22 22)), (7, .c (.v (.int .i64 22))), (8, .c (.v (.int .i64 0)))] (by kernel_rfl) (by decide) (by kernel_rfl) (by kernel_rfl) (fun _ => (by kernel_rfl)) (fun u => ofJ0 n w  b0 b1 u)
theorem r18name_any (n : Int) (w : World) : Calls Tryz.prog 43 #[.int .i64 n] w fun e w' => e = .returned (.tuple #[.string (if isS n then nameS n else ⟨#[]⟩), .bool (isS n)]) ∧ Only [] w w' := by
  refine Hs.enter Tryz.func43 [] [] [] [.c (.v (.int .i64 n))] (Mem.start0 w) (by kernel_rfl) (by kernel_rfl) ?_
  refine Hs.run0 300 (fun _ => by kernel_rfl) ?_
  refine Hs.callV (v := .tuple #[rowL n, .bool (isS n)]) (fun w' H => by rw [← rowS_eq]; exact of_any18 n w') (by kernel_rfl) ?_
  refine Hs.run1 300 (fun _ => by kernel_rfl) fun b0 => ?_
  exact Hs.ret (v := .tuple #[.string (if isS n then nameS n else ⟨#[]⟩), .bool (isS n)]) Tryz.func43 (by kernel_rfl) fun w' H => ⟨rfl, H.only⟩
theorem r18wire_any (n : Int) (w : World) : Calls Tryz.prog 38 #[.int .i64 n] w fun e w' => e = .returned (.bool (wireS n)) ∧ Only [] w w' := by
  refine Hs.enter Tryz.func38 [] [] [] [.c (.v (.int .i64 n))] (Mem.start0 w) (by kernel_rfl) (by kernel_rfl) ?_
  refine Hs.run0 300 (fun _ => by kernel_rfl) ?_
  refine Hs.callV (v := .tuple #[rowL n, .bool (isS n)]) (fun w' H => by rw [← rowS_eq]; exact of_any18 n w') (by kernel_rfl) ?_
  refine Hs.run1 300 (fun _ => by kernel_rfl) fun b0 => ?_
  exact Hs.ret (v := .bool (wireS n)) Tryz.func38 (by kernel_rfl) fun w' H => ⟨rfl, H.only⟩
end Go.Proofs.YtdplnedpbkpgpaaGreatDoor

namespace Go.Proofs.YtdplnedpbkpgpaaGreatDoor
set_option linter.all false
set_option maxRecDepth 100000
open Go.RowKit
def I64 (x : Int) : Prop := -9223372036854775808 ≤ x ∧ x ≤ 9223372036854775807
theorem wrap64 (x : Int) : IntKind.i64.wrap x = if x % 18446744073709551616 ≥ 9223372036854775808 then x % 18446744073709551616 - 18446744073709551616 else x % 18446744073709551616 := by
  show (if (true && decide (x % 18446744073709551616 ≥ 9223372036854775808)) = true then _ else _) = _
  simp only [Bool.true_and, decide_eq_true_eq]
  rfl
theorem wrap32 (x : Int) : IntKind.u32.wrap x = x % 4294967296 := rfl
theorem and255 (st : Int) : ((BitVec.ofInt 64 st &&& BitVec.ofInt 64 255).toNat : Int) = st % 256 := by
  rw [BitVec.toNat_and, show (BitVec.ofInt 64 255).toNat = 2 ^ 8 - 1 by decide, Nat.and_two_pow_sub_one_eq_mod, BitVec.toNat_ofInt]
  omega
theorem code_eq (st : Int) (h : I64 st) : IntKind.u32.wrap ((IntKind.i64.wrap (st.tmod 256 + 256)).tmod 256) = codeS st := by
  unfold codeS
  rw [and255]
  have h1 : IntKind.i64.wrap (st % 256) = st % 256 := by rw [wrap64]; split <;> omega
  rw [h1]
  have h2 : st.tmod 256 = if 0 ≤ st then st % 256 else -((-st) % 256) := by
    split
    · exact Int.tmod_eq_emod_of_nonneg (by assumption)
    · rw [← Int.tmod_eq_emod_of_nonneg (by omega : 0 ≤ -st), Int.neg_tmod, Int.neg_neg]
  have h3 : IntKind.i64.wrap (st.tmod 256 + 256) = st.tmod 256 + 256 := by
    rw [wrap64, h2]
    split <;> split <;> omega
  rw [h3, Int.tmod_eq_emod_of_nonneg (by rw [h2]; split <;> omega), h2]
  congr 1
  split <;> omega
theorem byS_in {st fr : Int} (h : I64 st) (hf : fr = 1000 ∨ fr = 2000) : byS st fr = if isS (st - fr) then st - fr else 0 := by
  unfold byS
  by_cases h1 : -9223372036854775808 ≤ st - fr
  · rw [show IntKind.i64.wrap (st - fr) = st - fr from IntWalk.i64_in _ (by unfold I64 at h; omega)]
  · have e : IntKind.i64.wrap (st - fr) = st - fr + 18446744073709551616 := by
      rw [wrap64]
      unfold I64 at h
      split <;> omega
    rw [e, isS_out (by unfold I64 at h; omega), isS_out (by unfold I64 at h; omega)]
    rfl
def zR9 (st : Int) : RQ := { zeroR with kind := 9, code := IntKind.u32.wrap ((IntKind.i64.wrap (st.tmod 256 + 256)).tmod 256) }
theorem sumS_out {st : Int} (h : I64 st) (hn : ¬ (st > 1000 ∧ st < 3000 ∧ isS (st.tmod 1000) = true)) : sumS st = 0 := by
  have hz : ∀ fr, (fr = 1000 ∨ fr = 2000) → byS st fr = 0 := fun fr hf => by
    rw [byS_in h hf]
    by_cases hs : isS (st - fr) = true
    · exfalso
      obtain ⟨h1, h2⟩ := isS_range hs
      refine hn ⟨by omega, by omega, ?_⟩
      rw [Int.tmod_eq_emod_of_nonneg (by omega), show st % 1000 = st - fr by omega]
      exact hs
    · rw [if_neg hs]
  unfold sumS
  rw [hz _ (.inl rfl), hz _ (.inr rfl)]
  rfl
theorem endR_out {st : Int} (h : I64 st) (hn : ¬ (st > 1000 ∧ st < 3000 ∧ isS (st.tmod 1000) = true)) : endR st = zR9 st := by
  unfold endR zR9
  rw [if_pos (by rw [sumS_out h hn]; rfl), code_eq st h]
theorem sumS_in {st : Int} (h : I64 st) (h1 : st > 1000) (h2 : st < 3000) (h3 : isS (st.tmod 1000) = true) : sumS st = st.tmod 1000 ∧ (decide (byS st 2000 > 0) = decide (st > 2000)) ∧ st.tmod 1000 ≠ 0 := by
  have e := Int.tmod_eq_emod_of_nonneg (a := st) (b := 1000) (by omega)
  rw [e] at h3 ⊢
  obtain ⟨g1, g2⟩ := isS_range h3
  unfold sumS
  rw [byS_in h (.inl rfl), byS_in h (.inr rfl)]
  by_cases h4 : st > 2000
  · have e2 : st % 1000 = st - 2000 := by omega
    rw [e2] at h3 g1 g2 ⊢
    rw [if_pos h3, isS_out (n := st - 1000) (by omega)]
    refine ⟨?_, by simp only [h4, decide_true]; simp; omega, by omega⟩
    rw [if_neg (by decide), Int.zero_add]
    exact IntWalk.i64_in _ (by omega)
  · have e2 : st % 1000 = st - 1000 := by omega
    rw [e2] at h3 g1 g2 ⊢
    rw [if_pos h3, isS_out (n := st - 2000) (by omega), if_neg (by decide)]
    refine ⟨?_, by simp; omega, by omega⟩
    rw [Int.add_zero]
    exact IntWalk.i64_in _ (by omega)
def z10 (sg : Int) (b : Bool) : RQ := { zeroR with kind := 10, text := (if wireS sg then nameS sg else nameS sg ++ oursS), on := b }
theorem endR_in {st : Int} (h : I64 st) (h1 : st > 1000) (h2 : st < 3000) (h3 : isS (st.tmod 1000) = true) : endR st = z10 (st.tmod 1000) (decide (st > 2000)) := by
  obtain ⟨e1, e2, e3⟩ := sumS_in h h1 h2 h3
  unfold endR z10
  rw [e1, e2, if_neg (by simpa using e3), if_pos h3]
theorem r27end_any (st : Int) (hst : I64 st) (w : World) : Calls Tryz.prog 22 #[.int .i64 st] w fun e w' => e = .returned (endR st).val ∧ Only [] w w' := by
  refine Hs.enter Tryz.func22 [] [] [] [.c (.v (.int .i64 st))] (Mem.start0 w) (by kernel_rfl) (by kernel_rfl) ?_
  refine Hs.run1 300 (fun _ => by kernel_rfl) fun b0 => ?_
  refine Hs.bool 8 (decide (st > 1000)) (by kernel_rfl) (fun h1 => ?_) (fun h1 => ?_)
  · replace h1 : st > 1000 := by simpa using h1
    refine Hs.rung0 [2] 300 (fun _ => by kernel_rfl) ?_
    refine Hs.condP (st < 3000) (by kernel_rfl) (fun h2 => ?_) (fun h2 => ?_)
    · refine Hs.run0 300 (fun _ => by kernel_rfl) ?_
      refine Hs.callV (fun w' H => r18name_any (st.tmod 1000) w') (by kernel_rfl) ?_
      refine Hs.run0 300 (fun _ => by kernel_rfl) ?_
      refine Hs.cond (isS (st.tmod 1000)) (by kernel_rfl) (fun h3 => ?_) (fun h3 => ?_)
      · rw [endR_in hst h1 h2 h3]
        have ht := textS_size (st.tmod 1000)
        rw [if_pos h3] at ht
        refine Hs.slot 4 (.c (.v (.string (nameS (st.tmod 1000))))) rfl ((by kernel_rfl : _ = Value.string (if isS (st.tmod 1000) then nameS (st.tmod 1000) else ⟨#[]⟩)).trans (by rw [if_pos h3]; rfl)) ?_
        refine Hs.run0 300 (fun _ => by kernel_rfl) ?_
        refine Hs.callV (fun w' H => r18wire_any (st.tmod 1000) w') (by kernel_rfl) ?_
        refine Hs.run0 300 (fun _ => by kernel_rfl) ?_
        unfold z10
        generalize nameS (st.tmod 1000) = tx at ht ⊢
        refine Hs.cond (!wireS (st.tmod 1000)) (by kernel_rfl) (fun h4 => ?_) (fun h4 => ?_)
        · rw [if_neg (by simpa using h4)]
          refine Hs.run0 2 (fun _ => by kernel_rfl) ?_
          refine Hs.opV (.c (.v (.string (tx ++ oursS)))) (by kernel_rfl) rfl (fun w H => run_cat tx oursS 9 (by have : oursS.size = 8 := rfl; omega) w) ?_
          refine Hs.run0 300 (fun _ => by kernel_rfl) ?_
          exact Hs.ret (v := RQ.val { zeroR with kind := 10, text := tx ++ oursS, on := decide (st > 2000) }) Tryz.func22 (by kernel_rfl) fun w' H => ⟨rfl, H.only⟩
        · rw [if_pos (by simpa using h4)]
          refine Hs.run0 300 (fun _ => by kernel_rfl) ?_
          exact Hs.ret (v := RQ.val { zeroR with kind := 10, text := tx, on := decide (st > 2000) }) Tryz.func22 (by kernel_rfl) fun w' H => ⟨rfl, H.only⟩
      · rw [endR_out hst (fun h => by rw [h3] at h; exact absurd h.2.2 (by decide))]
        refine Hs.run0 300 (fun _ => by kernel_rfl) ?_
        exact Hs.ret (v := (zR9 st).val) Tryz.func22 (by kernel_rfl) fun w' H => ⟨rfl, H.only⟩
    · rw [endR_out hst (fun h => h2 h.2.1)]
      refine Hs.run0 300 (fun _ => by kernel_rfl) ?_
      exact Hs.ret (v := (zR9 st).val) Tryz.func22 (by kernel_rfl) fun w' H => ⟨rfl, H.only⟩
  · rw [endR_out hst (fun h => by have := h.1; simp at h1; omega)]
    refine Hs.rung0 [2] 300 (fun _ => by kernel_rfl) ?_
    refine Hs.condF (by kernel_rfl) ?_
    refine Hs.run0 300 (fun _ => by kernel_rfl) ?_
    exact Hs.ret (v := (zR9 st).val) Tryz.func22 (by kernel_rfl) fun w' H => ⟨rfl, H.only⟩
end Go.Proofs.YtdplnedpbkpgpaaGreatDoor

namespace Go.Proofs.YtdplnedpbkpgpaaGreatDoor
set_option linter.all false
set_option maxRecDepth 100000
open Go.RowKit

/-- A program, as far as its name. -/
structure PR where
  n : ByteArray
  A : Option Addr
  c : Nat
  k : Nat
def cPr (x : PR) : List Value := [.string x.n, .slice x.A x.k x.c]
theorem cPr_len (x : PR) : (cPr x).length = 2 := rfl
def PR.sc (x : PR) : List SC := [.v (.string x.n), .v (.slice x.A x.k x.c)]
theorem elemPr : ElemT Tryz.prog 47 81 2 (Tryz.prog.bytesOf 81) := elemT_of (z := .agg #[.string ⟨#[]⟩, .slice none 0 0]) (by kernel_rfl) (by kernel_rfl) (by decide) (by decide)
theorem idxS_app (nm : ByteArray) (r : List ByteArray) : ∀ (l : List ByteArray) (i : Int), (∀ s ∈ l, (s.toList == nm.toList) = false) → idxS nm (l ++ r) i = idxS nm r (i + (l.length : Int))
  | [], i, _ => by simp
  | s :: l, i, h => by
    have h1 := h s List.mem_cons_self
    rw [List.cons_append, idx_no (by rw [← h1]; exact Bool.beq_comm), idxS_app nm r l (i + 1) fun x hx => h x (List.mem_cons_of_mem _ hx), List.length_cons]
    congr 1
    omega
def names (ps : List PR) : List ByteArray := ps.map PR.n
def findI (nm : ByteArray) (ps : List PR) : Int := idxS nm (names ps) 0
def findFV (b : Nat) : Value := .func (.func 152) #[] #[.pointer (some ⟨b, 0, none⟩)]
set_option maxHeartbeats 4000000 in
theorem indexP_any (nm : ByteArray) (b : Nat) (A : Option Addr) (c : Nat) (ps : List PR) (w : World) (h : Blk w b 9 [.string nm]) (hr : RdX cPr w A ps) (hl : ps.length ≤ maxLen) : Calls Tryz.prog 151 #[.slice A ps.length c, findFV b] w fun e w' => e = .returned (.int .i64 (findI nm ps)) ∧ Only [] w w' := by
  have J : ∀ (d i : Nat), ps.length - i = d → i ≤ ps.length → (∀ x ∈ ps.take i, (x.n.toList == nm.toList) = false) → ∀ (u : Nat → Value), Hs Tryz.prog 151 (fun e w' => e = .returned (.int .i64 (findI nm ps)) ∧ Only [] w w') (Tryz.f151).ntmps w [] [b] ⟨.no, loopAt Tryz.f151 0, pins [(0, .c (.v (.slice A ps.length c))), (1, .c (.v (findFV b))), (7, .c (.v (.int .i64 ps.length))), (8, .c (.v (.int .i64 i)))] (.vals u), [.b false 9 [.v (.string nm)]]⟩ := by
    intro d
    induction d with
    | zero =>
      intro i hd hi hno u
      obtain rfl : i = ps.length := by omega
      rw [List.take_length] at hno
      have e : findI nm ps = -1 := by
        unfold findI
        have := idxS_app nm [] (names ps) 0 (fun s hs => by
          obtain ⟨x, hx, rfl⟩ := List.mem_map.1 hs
          exact hno x hx)
        rw [List.append_nil] at this
        rw [this]
        rfl
      rw [e]
      refine Hs.run0 300 (fun _ => by kernel_rfl) ?_
      refine Hs.condP ((ps.length : Int) < (ps.length : Int)) (by kernel_rfl) (fun h => by omega) (fun _ => ?_)
      refine Hs.run0 300 (fun _ => by kernel_rfl) ?_
      exact Hs.ret (v := .int .i64 (-1)) Tryz.func151 (by kernel_rfl) fun w' H => ⟨rfl, H.only⟩
    | succ d ih =>
      intro i hd hi hno u
      have hil : i < ps.length := by omega
      obtain ⟨x, hx⟩ : ∃ x, ps[i]? = some x := ⟨_, List.getElem?_eq_getElem hil⟩
      obtain ⟨ab, aoff, hA, _, _⟩ := hr (by omega)
      have hih := fun h u => ih (i + 1) (by omega) (by omega) h u
      clear ih
      rw [hA] at hih hr ⊢
      refine Hs.run0 300 (fun _ => by kernel_rfl) ?_
      refine Hs.condP ((i : Int) < (ps.length : Int)) (by kernel_rfl) (fun _ => ?_) (fun h => by omega)
      refine Hs.run0 300 (fun _ => by kernel_rfl) ?_
      refine Hs.idx (b := ab) (off := aoff) (len := ps.length) (c := c) (i := i) elemPr hil (by kernel_rfl) ?_
      refine Hs.ldx (cf := cPr) (size := 2) (E := 81) (b := ab) (off := aoff) (i := i) (l := ps) (x := x) cPr_len (.g x.sc) (by kernel_rfl) (fun w' H => hr.only H.only) hx (by kernel_rfl) (by kernel_rfl) rfl (by kernel_rfl) ?_
      refine Hs.inl Tryz.func152 [.g x.sc, .c (.p 0 0)] (by kernel_rfl) (by kernel_rfl) ?_
      refine Hs.run1 300 (fun _ => by kernel_rfl) fun b2 => ?_
      refine Hs.retI Tryz.func152 (by kernel_rfl) (by kernel_rfl) (by kernel_rfl) ?_
      refine Hs.run0 300 (fun _ => by kernel_rfl) ?_
      refine Hs.cond (x.n.toList == nm.toList) (by kernel_rfl) (fun h1 => ?_) (fun h1 => ?_)
      · have e : findI nm ps = i := by
          unfold findI
          have e2 : names ps = names (ps.take i) ++ (x.n :: names (ps.drop (i + 1))) := by
            have e3 : ps = ps.take i ++ x :: ps.drop (i + 1) := by
              have h3 := List.drop_eq_getElem_cons hil
              rw [List.getElem?_eq_getElem hil] at hx
              injection hx with hx
              rw [hx] at h3
              rw [← h3, List.take_append_drop]
            unfold names
            rw [← List.map_cons, ← List.map_append, ← e3]
          rw [e2, idxS_app nm _ _ 0 (fun s hs => by
            obtain ⟨y, hy, rfl⟩ := List.mem_map.1 hs
            exact hno y hy), idx_yes (by rw [← h1]; exact Bool.beq_comm)]
          unfold names
          rw [List.length_map, List.length_take]
          omega
        rw [e]
        refine Hs.run0 300 (fun _ => by kernel_rfl) ?_
        exact Hs.ret (v := .int .i64 i) Tryz.func151 (by kernel_rfl) fun w' H => ⟨rfl, H.only⟩
      · refine Hs.run0 300 (fun _ => by kernel_rfl) ?_
        refine Hs.slot 8 (.c (.v (.int .i64 (i + 1 : Nat)))) rfl ((by kernel_rfl : _ = Value.int .i64 (IntKind.i64.wrap ((i : Int) + 1))).trans (wrap_nextJ hl)) ?_
        refine Hs.loop (by kernel_rfl) ?_
        exact Hs.goto (loopAt Tryz.f151 0) [0] [.b false 9 [.v (.string nm)]] [(0, .c (.v (.slice (some ⟨ab, aoff, none⟩) ps.length c))), (1, .c (.v (findFV b))), (7, .c (.v (.int .i64 ps.length))), (8, .c (.v (.int .i64 (i + 1 : Nat))))] (by kernel_rfl) (by decide) (by kernel_rfl) (by kernel_rfl) (fun _ => (by kernel_rfl)) (fun u => hih (by
          rw [List.take_add_one, hx]
          intro y hy
          rcases List.mem_append.1 hy with hy | hy
          · exact hno y hy
          · rw [Option.mem_toList] at hy
            injection hy with hy
            subst hy
            exact h1) u)
  refine Hs.enter Tryz.func151 [] [b] [.b false 9 [.v (.string nm)]] [.c (.v (.slice A ps.length c)), .c (.v (findFV b))] (Mem.rdB1 w b h) (by kernel_rfl) (by kernel_rfl) ?_
  refine Hs.run0 300 (fun _ => by kernel_rfl) ?_
  refine Hs.loop (by kernel_rfl) ?_
  exact Hs.goto (loopAt Tryz.f151 0) [0] [.b false 9 [.v (.string nm)]] [(0, .c (.v (.slice A ps.length c))), (1, .c (.v (findFV b))), (7, .c (.v (.int .i64 ps.length))), (8, .c (.v (.int .i64 (0 : Nat))))] (by kernel_rfl) (by decide) (by kernel_rfl) (by kernel_rfl) (fun _ => (by kernel_rfl)) (fun u => J ps.length 0 (by omega) (by omega) (by simp) u)
def findN (nm : ByteArray) (ps : List PR) : Int := if 0 > findI nm ps then 0 else findI nm ps
def findB (nm : ByteArray) (ps : List PR) : Bool := decide (findI nm ps ≥ 0)
theorem find_any27 (nm : ByteArray) (A : Option Addr) (c : Nat) (ps : List PR) (w : World) (hr : RdX cPr w A ps) (hl : ps.length ≤ maxLen) : Calls Tryz.prog 137 #[.slice A ps.length c, .string nm] w fun e w' => e = .returned (.tuple #[.int .i64 (findN nm ps), .bool (findB nm ps)]) ∧ Only [] w w' := by
  refine Hs.enter Tryz.func137 [] [] [] [.c (.v (.slice A ps.length c)), .c (.v (.string nm))] (Mem.start0 w) (by kernel_rfl) (by kernel_rfl) ?_
  refine Hs.run1 300 (fun _ => by kernel_rfl) fun b0 => ?_
  refine Hs.callV (fun w' H => indexP_any nm b0 A c ps w' (H.at (wr := true) (T := 9) (cs := [.v (.string nm)]) 0 (by kernel_rfl)) (hr.only H.only) hl) (by kernel_rfl) ?_
  refine Hs.run0 300 (fun _ => by kernel_rfl) ?_
  exact Hs.ret (v := .tuple #[.int .i64 (findN nm ps), .bool (findB nm ps)]) Tryz.func137 (by kernel_rfl) fun w' H => ⟨rfl, H.only⟩
/-- A variable. -/
structure VR where
  n : ByteArray
  v : ByteArray
def cVar (x : VR) : List Value := [.string x.n, .string x.v]
theorem cVar_len (x : VR) : (cVar x).length = 2 := rfl
theorem cVar_one (x : VR) : ∀ u ∈ cVar x, u.oneCell' = true := by
  intro u hu
  simp only [cVar, List.mem_cons, List.not_mem_nil, or_false] at hu
  rcases hu with rfl | rfl <;> rfl
def VR.sc (x : VR) : List SC := [.v (.string x.n), .v (.string x.v)]
theorem elemVr : ElemT Tryz.prog 39 59 2 (Tryz.prog.bytesOf 59) := elemT_of (z := .agg #[.string ⟨#[]⟩, .string ⟨#[]⟩]) (by kernel_rfl) (by kernel_rfl) (by decide) (by decide)
theorem by_vr : Tryz.prog.bytesOf 59 = 32 := by kernel_rfl
def OwnV (l : List VR) (w : World) (v : Option Addr → Nat → Value) : Ending → World → Prop := fun e w' => ∃ A cap, e = .returned (v A cap) ∧ Only [] w w' ∧ OwnX cVar 59 2 w' w.heap.size (.slice A l.length cap) l
theorem cloneV_any (l : List VR) (A : Option Addr) (cap : Nat) (w : World) (hr : RdX cVar w A l) (hf : l.length ≤ 1000000000000) : Calls Tryz.prog 27 #[.slice A l.length cap] w (OwnV l w fun A cap => .slice A l.length cap) := by
  have hlen : l.length ≤ maxLen := by unfold maxLen; omega
  cases A with
  | none =>
    have hl0 : l = [] := by
      cases l with
      | nil => rfl
      | cons a r => obtain ⟨b, off, e, _⟩ := hr (by simp); cases e
    subst hl0
    refine Hs.enter Tryz.func27 [] [] [] [.c (.v (.slice none 0 cap))] (Mem.start0 w) (by kernel_rfl) (by kernel_rfl) ?_
    refine Hs.run0 300 (fun _ => by kernel_rfl) ?_
    refine Hs.condT (by kernel_rfl) ?_
    refine Hs.run0 300 (fun _ => by kernel_rfl) ?_
    exact Hs.ret (v := .slice none 0 0) Tryz.func27 (by kernel_rfl) fun w' H => ⟨none, 0, rfl, H.only, ownX_nil⟩
  | some a =>
    refine Hs.enter Tryz.func27 [] [] [] [.c (.v (.slice (some a) l.length cap))] (Mem.start0 w) (by kernel_rfl) (by kernel_rfl) ?_
    refine Hs.run0 300 (fun _ => by kernel_rfl) ?_
    refine Hs.condF (by kernel_rfl) ?_
    refine Hs.run1 300 (fun _ => by kernel_rfl) fun b0 => ?_
    refine Hs.litX (ty := 39) (c := cap) 0 elemVr l l.length rfl cVar_one cVar_len (by kernel_rfl) (by kernel_rfl) (by kernel_rfl) (fun w' H => hr.only H.only) hlen (by rw [by_vr]; omega) fun A' cap' h1 h2 => ?_
    refine Hs.run0 300 (fun _ => by kernel_rfl) ?_
    exact Hs.ret (v := .slice A' l.length cap') Tryz.func27 (by kernel_rfl) fun w' H => ⟨A', cap', rfl, H.only, H.fresh 0 rfl (by kernel_rfl)⟩
end Go.Proofs.YtdplnedpbkpgpaaGreatDoor
