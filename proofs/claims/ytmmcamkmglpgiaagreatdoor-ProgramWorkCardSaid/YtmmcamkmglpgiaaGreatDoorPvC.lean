/- Layer 8: settings: whether a flag is on, what a character is, a flag set; for all settings; no condition · Layer 19: what is asked of an operation, kind by kind; for all operations; no condition · Layers 18, 19: an action's change; whether an operation may be; for all operations; no condition · Layer 19: whether an operation may be; for all operations; no condition. -/
import Derived.Test.YtmmcamkmglpgiaaGreatDoorEngQ
import Derived.Test.YtmmcamkmglpgiaaGreatDoorPvB
import Derived.Test.YtmmcamkmglpgiaaGreatDoorPvA
namespace Go.Proofs.YtmmcamkmglpgiaaGreatDoor
set_option linter.all false
set_option maxRecDepth 100000
open Go.RowKit

/-- A setting. -/
structure TM where
  ch : Nat → Int
  fl : Int
  inn : Int
  out : Int
  mn : Int
  tm : Int
def TM.sc (t : TM) : List SC := [.v (.int .u8 (t.ch 0)), .v (.int .u8 (t.ch 1)), .v (.int .u8 (t.ch 2)), .v (.int .u8 (t.ch 3)), .v (.int .u8 (t.ch 4)), .v (.int .u8 (t.ch 5)), .v (.int .u8 (t.ch 6)), .v (.int .u8 (t.ch 7)), .v (.int .u8 (t.ch 8)), .v (.int .u8 (t.ch 9)), .v (.int .u8 (t.ch 10)), .v (.int .u8 (t.ch 11)), .v (.int .u8 (t.ch 12)), .v (.int .u8 (t.ch 13)), .v (.int .u8 (t.ch 14)), .v (.int .u8 (t.ch 15)), .v (.int .u8 (t.ch 16)), .v (.int .u8 (t.ch 17)), .v (.int .u8 (t.ch 18)), .v (.int .u64 t.fl), .v (.int .u32 t.inn), .v (.int .u32 t.out), .v (.int .i64 t.mn), .v (.int .i64 t.tm)]
def TM.cells (t : TM) : List Value := [.int .u8 (t.ch 0), .int .u8 (t.ch 1), .int .u8 (t.ch 2), .int .u8 (t.ch 3), .int .u8 (t.ch 4), .int .u8 (t.ch 5), .int .u8 (t.ch 6), .int .u8 (t.ch 7), .int .u8 (t.ch 8), .int .u8 (t.ch 9), .int .u8 (t.ch 10), .int .u8 (t.ch 11), .int .u8 (t.ch 12), .int .u8 (t.ch 13), .int .u8 (t.ch 14), .int .u8 (t.ch 15), .int .u8 (t.ch 16), .int .u8 (t.ch 17), .int .u8 (t.ch 18), .int .u64 t.fl, .int .u32 t.inn, .int .u32 t.out, .int .i64 t.mn, .int .i64 t.tm]
def TM.val (t : TM) : Value := .agg #[.int .u8 (t.ch 0), .int .u8 (t.ch 1), .int .u8 (t.ch 2), .int .u8 (t.ch 3), .int .u8 (t.ch 4), .int .u8 (t.ch 5), .int .u8 (t.ch 6), .int .u8 (t.ch 7), .int .u8 (t.ch 8), .int .u8 (t.ch 9), .int .u8 (t.ch 10), .int .u8 (t.ch 11), .int .u8 (t.ch 12), .int .u8 (t.ch 13), .int .u8 (t.ch 14), .int .u8 (t.ch 15), .int .u8 (t.ch 16), .int .u8 (t.ch 17), .int .u8 (t.ch 18), .int .u64 t.fl, .int .u32 t.inn, .int .u32 t.out, .int .i64 t.mn, .int .i64 t.tm]
def isFlagB (op : Int) : Bool := (decide (30 ≤ op) && decide (op ≤ 42)) || ((decide (50 ≤ op) && decide (op ≤ 62)) || ((decide (70 ≤ op) && decide (op ≤ 75)) || (decide (90 ≤ op) && decide (op ≤ 93))))
def bitI (op : Int) : Int := ((2 ^ (op - 30).toNat : Nat) : Int)
/-- A flag is on. -/
def hasI (fl op : Int) : Bool := isFlagB op && (IntKind.u64.wrap (((BitVec.ofInt 64 fl) &&& (BitVec.ofInt 64 (bitI op))).toNat) != 0)
def TM.has (t : TM) (op : Int) : Bool := hasI t.fl op
/-- With a flag on, or off. -/
def setI (fl op : Int) (on : Bool) : Int := if isFlagB op then (if on then IntKind.u64.wrap (((BitVec.ofInt 64 fl) ||| (BitVec.ofInt 64 (bitI op))).toNat) else IntKind.u64.wrap (((BitVec.ofInt 64 fl) &&& ~~~(BitVec.ofInt 64 (bitI op))).toNat)) else fl
def TM.set (t : TM) (op : Int) (on : Bool) : TM := { t with fl := setI t.fl op on }
theorem groups_any (w : World) : Calls Tryz.prog 147 #[] w fun e w' => e = .returned (.agg #[.int .i64 30, .int .i64 42, .int .i64 50, .int .i64 62, .int .i64 70, .int .i64 75, .int .i64 90, .int .i64 93]) ∧ Only [] w w' := by
  refine Hs.enter Tryz.func147 [] [] [] [] (Mem.start0 w) (by kernel_rfl) (by kernel_rfl) ?_
  refine Hs.run1 300 (fun _ => by kernel_rfl) fun b0 => ?_
  exact Hs.ret (v := .agg #[.int .i64 30, .int .i64 42, .int .i64 50, .int .i64 62, .int .i64 70, .int .i64 75, .int .i64 90, .int .i64 93]) Tryz.func147 (by kernel_rfl) fun w' H => ⟨rfl, H.only⟩
theorem flag_step {x y op : Int} {r : Bool} : ((decide (x ≤ op) && decide (op ≤ y)) || r) = if x ≤ op ∧ op ≤ y then true else r := by
  by_cases h1 : x ≤ op <;> by_cases h2 : op ≤ y <;> simp [h1, h2]
theorem isFlag_any (op : Int) (w : World) : Calls Tryz.prog 132 #[.int .i64 op] w fun e w' => e = .returned (.bool (isFlagB op)) ∧ Only [] w w' := by
  have J4 : ¬ ((30 : Int) ≤ op ∧ op ≤ 42) → ¬ ((50 : Int) ≤ op ∧ op ≤ 62) → ¬ ((70 : Int) ≤ op ∧ op ≤ 75) → ¬ ((90 : Int) ≤ op ∧ op ≤ 93) → ∀ u : Nat → Value, Hs Tryz.prog 132 (fun e w' => e = .returned (.bool (isFlagB op)) ∧ Only [] w w') (Tryz.f132).ntmps w [] [] ⟨.no, loopAt Tryz.f132 0, pins [(0, .c (.v (.int .i64 op))), (2, .c (.v (.bool false))), (5, .c (.v (.agg #[.int .i64 30, .int .i64 42, .int .i64 50, .int .i64 62, .int .i64 70, .int .i64 75, .int .i64 90, .int .i64 93]))), (6, .c (.v (.int .i64 4)))] (.vals u), []⟩ := by
    intro g0 g1 g2 g3 u
    refine Hs.run0 300 (fun _ => by kernel_rfl) ?_
    refine Hs.condF (by kernel_rfl) ?_
    refine Hs.run0 300 (fun _ => by kernel_rfl) ?_
    have e : isFlagB op = false := by
      simp only [isFlagB, flag_step, if_neg g0, if_neg g1, if_neg g2]
      simpa using g3
    exact Hs.ret (v := .bool false) Tryz.func132 (by kernel_rfl) fun w' H => ⟨by rw [e], H.only⟩
  have J3 : ¬ ((30 : Int) ≤ op ∧ op ≤ 42) → ¬ ((50 : Int) ≤ op ∧ op ≤ 62) → ¬ ((70 : Int) ≤ op ∧ op ≤ 75) → ∀ u : Nat → Value, Hs Tryz.prog 132 (fun e w' => e = .returned (.bool (isFlagB op)) ∧ Only [] w w') (Tryz.f132).ntmps w [] [] ⟨.no, loopAt Tryz.f132 0, pins [(0, .c (.v (.int .i64 op))), (2, .c (.v (.bool false))), (5, .c (.v (.agg #[.int .i64 30, .int .i64 42, .int .i64 50, .int .i64 62, .int .i64 70, .int .i64 75, .int .i64 90, .int .i64 93]))), (6, .c (.v (.int .i64 3)))] (.vals u), []⟩ := by
    intro g0 g1 g2 u
    refine Hs.run0 300 (fun _ => by kernel_rfl) ?_
    refine Hs.condT (by kernel_rfl) ?_
    refine Hs.run1 300 (fun _ => by kernel_rfl) fun c0 => ?_
    refine Hs.bool 13 (decide ((90 : Int) ≤ op)) (by kernel_rfl) (fun h => ?_) (fun h => ?_)
    · have h1 := of_decide_eq_true h
      refine Hs.rung0 [4] 300 (fun _ => by kernel_rfl) ?_
      refine Hs.condP (op ≤ (93 : Int)) (by kernel_rfl) (fun h2 => ?_) (fun h2 => ?_)
      · have e : isFlagB op = true := by
          simp only [isFlagB, flag_step, if_neg g0, if_neg g1, if_neg g2]
          simp [h1, h2]
        refine Hs.run0 300 (fun _ => by kernel_rfl) ?_
        exact Hs.ret (v := .bool true) Tryz.func132 (by kernel_rfl) fun w' H => ⟨by rw [e], H.only⟩
      · refine Hs.run0 300 (fun _ => by kernel_rfl) ?_
        refine Hs.loop (by kernel_rfl) ?_
        exact Hs.goto (loopAt Tryz.f132 0) [] [] [(0, .c (.v (.int .i64 op))), (2, .c (.v (.bool false))), (5, .c (.v (.agg #[.int .i64 30, .int .i64 42, .int .i64 50, .int .i64 62, .int .i64 70, .int .i64 75, .int .i64 90, .int .i64 93]))), (6, .c (.v (.int .i64 4)))] (by kernel_rfl) (by decide) (by kernel_rfl) (by kernel_rfl) (fun _ => (by kernel_rfl)) (J4 g0 g1 g2 (fun h => by omega))
    · have h1 := of_decide_eq_false h
      refine Hs.rung0 [4] 300 (fun _ => by kernel_rfl) ?_
      refine Hs.condF (by kernel_rfl) ?_
      refine Hs.run0 300 (fun _ => by kernel_rfl) ?_
      refine Hs.loop (by kernel_rfl) ?_
      exact Hs.goto (loopAt Tryz.f132 0) [] [] [(0, .c (.v (.int .i64 op))), (2, .c (.v (.bool false))), (5, .c (.v (.agg #[.int .i64 30, .int .i64 42, .int .i64 50, .int .i64 62, .int .i64 70, .int .i64 75, .int .i64 90, .int .i64 93]))), (6, .c (.v (.int .i64 4)))] (by kernel_rfl) (by decide) (by kernel_rfl) (by kernel_rfl) (fun _ => (by kernel_rfl)) (J4 g0 g1 g2 (fun h => by omega))
  have J2 : ¬ ((30 : Int) ≤ op ∧ op ≤ 42) → ¬ ((50 : Int) ≤ op ∧ op ≤ 62) → ∀ u : Nat → Value, Hs Tryz.prog 132 (fun e w' => e = .returned (.bool (isFlagB op)) ∧ Only [] w w') (Tryz.f132).ntmps w [] [] ⟨.no, loopAt Tryz.f132 0, pins [(0, .c (.v (.int .i64 op))), (2, .c (.v (.bool false))), (5, .c (.v (.agg #[.int .i64 30, .int .i64 42, .int .i64 50, .int .i64 62, .int .i64 70, .int .i64 75, .int .i64 90, .int .i64 93]))), (6, .c (.v (.int .i64 2)))] (.vals u), []⟩ := by
    intro g0 g1 u
    refine Hs.run0 300 (fun _ => by kernel_rfl) ?_
    refine Hs.condT (by kernel_rfl) ?_
    refine Hs.run1 300 (fun _ => by kernel_rfl) fun c0 => ?_
    refine Hs.bool 13 (decide ((70 : Int) ≤ op)) (by kernel_rfl) (fun h => ?_) (fun h => ?_)
    · have h1 := of_decide_eq_true h
      refine Hs.rung0 [4] 300 (fun _ => by kernel_rfl) ?_
      refine Hs.condP (op ≤ (75 : Int)) (by kernel_rfl) (fun h2 => ?_) (fun h2 => ?_)
      · have e : isFlagB op = true := by
          simp only [isFlagB, flag_step, if_neg g0, if_neg g1]
          simp [h1, h2]
        refine Hs.run0 300 (fun _ => by kernel_rfl) ?_
        exact Hs.ret (v := .bool true) Tryz.func132 (by kernel_rfl) fun w' H => ⟨by rw [e], H.only⟩
      · refine Hs.run0 300 (fun _ => by kernel_rfl) ?_
        refine Hs.loop (by kernel_rfl) ?_
        exact Hs.goto (loopAt Tryz.f132 0) [] [] [(0, .c (.v (.int .i64 op))), (2, .c (.v (.bool false))), (5, .c (.v (.agg #[.int .i64 30, .int .i64 42, .int .i64 50, .int .i64 62, .int .i64 70, .int .i64 75, .int .i64 90, .int .i64 93]))), (6, .c (.v (.int .i64 3)))] (by kernel_rfl) (by decide) (by kernel_rfl) (by kernel_rfl) (fun _ => (by kernel_rfl)) (J3 g0 g1 (fun h => by omega))
    · have h1 := of_decide_eq_false h
      refine Hs.rung0 [4] 300 (fun _ => by kernel_rfl) ?_
      refine Hs.condF (by kernel_rfl) ?_
      refine Hs.run0 300 (fun _ => by kernel_rfl) ?_
      refine Hs.loop (by kernel_rfl) ?_
      exact Hs.goto (loopAt Tryz.f132 0) [] [] [(0, .c (.v (.int .i64 op))), (2, .c (.v (.bool false))), (5, .c (.v (.agg #[.int .i64 30, .int .i64 42, .int .i64 50, .int .i64 62, .int .i64 70, .int .i64 75, .int .i64 90, .int .i64 93]))), (6, .c (.v (.int .i64 3)))] (by kernel_rfl) (by decide) (by kernel_rfl) (by kernel_rfl) (fun _ => (by kernel_rfl)) (J3 g0 g1 (fun h => by omega))
  have J1 : ¬ ((30 : Int) ≤ op ∧ op ≤ 42) → ∀ u : Nat → Value, Hs Tryz.prog 132 (fun e w' => e = .returned (.bool (isFlagB op)) ∧ Only [] w w') (Tryz.f132).ntmps w [] [] ⟨.no, loopAt Tryz.f132 0, pins [(0, .c (.v (.int .i64 op))), (2, .c (.v (.bool false))), (5, .c (.v (.agg #[.int .i64 30, .int .i64 42, .int .i64 50, .int .i64 62, .int .i64 70, .int .i64 75, .int .i64 90, .int .i64 93]))), (6, .c (.v (.int .i64 1)))] (.vals u), []⟩ := by
    intro g0 u
    refine Hs.run0 300 (fun _ => by kernel_rfl) ?_
    refine Hs.condT (by kernel_rfl) ?_
    refine Hs.run1 300 (fun _ => by kernel_rfl) fun c0 => ?_
    refine Hs.bool 13 (decide ((50 : Int) ≤ op)) (by kernel_rfl) (fun h => ?_) (fun h => ?_)
    · have h1 := of_decide_eq_true h
      refine Hs.rung0 [4] 300 (fun _ => by kernel_rfl) ?_
      refine Hs.condP (op ≤ (62 : Int)) (by kernel_rfl) (fun h2 => ?_) (fun h2 => ?_)
      · have e : isFlagB op = true := by
          simp only [isFlagB, flag_step, if_neg g0]
          simp [h1, h2]
        refine Hs.run0 300 (fun _ => by kernel_rfl) ?_
        exact Hs.ret (v := .bool true) Tryz.func132 (by kernel_rfl) fun w' H => ⟨by rw [e], H.only⟩
      · refine Hs.run0 300 (fun _ => by kernel_rfl) ?_
        refine Hs.loop (by kernel_rfl) ?_
        exact Hs.goto (loopAt Tryz.f132 0) [] [] [(0, .c (.v (.int .i64 op))), (2, .c (.v (.bool false))), (5, .c (.v (.agg #[.int .i64 30, .int .i64 42, .int .i64 50, .int .i64 62, .int .i64 70, .int .i64 75, .int .i64 90, .int .i64 93]))), (6, .c (.v (.int .i64 2)))] (by kernel_rfl) (by decide) (by kernel_rfl) (by kernel_rfl) (fun _ => (by kernel_rfl)) (J2 g0 (fun h => by omega))
    · have h1 := of_decide_eq_false h
      refine Hs.rung0 [4] 300 (fun _ => by kernel_rfl) ?_
      refine Hs.condF (by kernel_rfl) ?_
      refine Hs.run0 300 (fun _ => by kernel_rfl) ?_
      refine Hs.loop (by kernel_rfl) ?_
      exact Hs.goto (loopAt Tryz.f132 0) [] [] [(0, .c (.v (.int .i64 op))), (2, .c (.v (.bool false))), (5, .c (.v (.agg #[.int .i64 30, .int .i64 42, .int .i64 50, .int .i64 62, .int .i64 70, .int .i64 75, .int .i64 90, .int .i64 93]))), (6, .c (.v (.int .i64 2)))] (by kernel_rfl) (by decide) (by kernel_rfl) (by kernel_rfl) (fun _ => (by kernel_rfl)) (J2 g0 (fun h => by omega))
  have J0 : ∀ u : Nat → Value, Hs Tryz.prog 132 (fun e w' => e = .returned (.bool (isFlagB op)) ∧ Only [] w w') (Tryz.f132).ntmps w [] [] ⟨.no, loopAt Tryz.f132 0, pins [(0, .c (.v (.int .i64 op))), (2, .c (.v (.bool false))), (5, .c (.v (.agg #[.int .i64 30, .int .i64 42, .int .i64 50, .int .i64 62, .int .i64 70, .int .i64 75, .int .i64 90, .int .i64 93]))), (6, .c (.v (.int .i64 0)))] (.vals u), []⟩ := by
    intro  u
    refine Hs.run0 300 (fun _ => by kernel_rfl) ?_
    refine Hs.condT (by kernel_rfl) ?_
    refine Hs.run1 300 (fun _ => by kernel_rfl) fun c0 => ?_
    refine Hs.bool 13 (decide ((30 : Int) ≤ op)) (by kernel_rfl) (fun h => ?_) (fun h => ?_)
    · have h1 := of_decide_eq_true h
      refine Hs.rung0 [4] 300 (fun _ => by kernel_rfl) ?_
      refine Hs.condP (op ≤ (42 : Int)) (by kernel_rfl) (fun h2 => ?_) (fun h2 => ?_)
      · have e : isFlagB op = true := by
          simp only [isFlagB, flag_step]
          simp [h1, h2]
        refine Hs.run0 300 (fun _ => by kernel_rfl) ?_
        exact Hs.ret (v := .bool true) Tryz.func132 (by kernel_rfl) fun w' H => ⟨by rw [e], H.only⟩
      · refine Hs.run0 300 (fun _ => by kernel_rfl) ?_
        refine Hs.loop (by kernel_rfl) ?_
        exact Hs.goto (loopAt Tryz.f132 0) [] [] [(0, .c (.v (.int .i64 op))), (2, .c (.v (.bool false))), (5, .c (.v (.agg #[.int .i64 30, .int .i64 42, .int .i64 50, .int .i64 62, .int .i64 70, .int .i64 75, .int .i64 90, .int .i64 93]))), (6, .c (.v (.int .i64 1)))] (by kernel_rfl) (by decide) (by kernel_rfl) (by kernel_rfl) (fun _ => (by kernel_rfl)) (J1  (fun h => by omega))
    · have h1 := of_decide_eq_false h
      refine Hs.rung0 [4] 300 (fun _ => by kernel_rfl) ?_
      refine Hs.condF (by kernel_rfl) ?_
      refine Hs.run0 300 (fun _ => by kernel_rfl) ?_
      refine Hs.loop (by kernel_rfl) ?_
      exact Hs.goto (loopAt Tryz.f132 0) [] [] [(0, .c (.v (.int .i64 op))), (2, .c (.v (.bool false))), (5, .c (.v (.agg #[.int .i64 30, .int .i64 42, .int .i64 50, .int .i64 62, .int .i64 70, .int .i64 75, .int .i64 90, .int .i64 93]))), (6, .c (.v (.int .i64 1)))] (by kernel_rfl) (by decide) (by kernel_rfl) (by kernel_rfl) (fun _ => (by kernel_rfl)) (J1  (fun h => by omega))
  refine Hs.enter Tryz.func132 [] [] [] [.c (.v (.int .i64 op))] (Mem.start0 w) (by kernel_rfl) (by kernel_rfl) ?_
  refine Hs.run0 300 (fun _ => by kernel_rfl) ?_
  refine Hs.callV (fun w' H => groups_any w') (by kernel_rfl) ?_
  refine Hs.run0 300 (fun _ => by kernel_rfl) ?_
  refine Hs.loop (by kernel_rfl) ?_
  exact Hs.goto (loopAt Tryz.f132 0) [] [] [(0, .c (.v (.int .i64 op))), (2, .c (.v (.bool false))), (5, .c (.v (.agg #[.int .i64 30, .int .i64 42, .int .i64 50, .int .i64 62, .int .i64 70, .int .i64 75, .int .i64 90, .int .i64 93]))), (6, .c (.v (.int .i64 0)))] (by kernel_rfl) (by decide) (by kernel_rfl) (by kernel_rfl) (fun _ => (by kernel_rfl)) J0
theorem flag_lo {op : Int} (h : isFlagB op = true) : 30 ≤ op ∧ op ≤ 93 := by
  simp [isFlagB] at h
  omega
theorem bit_any (op : Int) (h1 : 30 ≤ op) (h2 : op ≤ 93) (w : World) : Calls Tryz.prog 133 #[.int .i64 op] w fun e w' => e = .returned (.int .u64 (bitI op)) ∧ Only [] w w' := by
  refine Hs.enter Tryz.func133 [] [] [] [.c (.v (.int .i64 op))] (Mem.start0 w) (by kernel_rfl) (by kernel_rfl) ?_
  refine Hs.rung0 [] 8 (fun _ => (by kernel_rfl)) ?_
  have e : IntKind.i64.wrap (op - 30) = op - 30 := IntWalk.i64_in _ (by omega)
  have e2 : IntKind.u64.wrap ((1 : Int) * 2 ^ min (op - 30).toNat 64) = bitI op := by
    rw [Nat.min_eq_left (by omega), Int.one_mul]
    unfold bitI
    have h3 : (2 : Int) ^ (op - 30).toNat = ((2 ^ (op - 30).toNat : Nat) : Int) := (Int.natCast_pow 2 _).symm
    have h6 : (op - 30).toNat < 64 := by omega
    have h4 : 2 ^ (op - 30).toNat < 2 ^ 64 := Nat.pow_lt_pow_right (by decide) h6
    rw [h3]
    generalize 2 ^ (op - 30).toNat = q at h4
    have h7 : q < 18446744073709551616 := h4
    have h5 : (q : Int) < 18446744073709551616 := by omega
    show ((q : Int) % (18446744073709551616 : Int)) = _
    exact Int.emod_eq_of_lt (Int.natCast_nonneg q) h5
  refine Hs.bin (op := .shl) (T := 147) (k := .u64) (k' := .i64) (a := 1) (b := IntKind.i64.wrap (op - 30)) (.int .u64 (IntKind.u64.wrap ((1 : Int) * 2 ^ min (IntKind.i64.wrap (op - 30)).toNat 64))) (by kernel_rfl) (fun w => run_shl (by rw [e]; omega) w) ?_
  refine Hs.run0 300 (fun _ => by kernel_rfl) ?_
  exact Hs.ret (v := .int .u64 (IntKind.u64.wrap ((1 : Int) * 2 ^ min (IntKind.i64.wrap (op - 30)).toNat 64))) Tryz.func133 (by kernel_rfl) fun w' H => ⟨by rw [e, e2], H.only⟩
def TM.chr (t : TM) (op : Nat) : Int := if t.ch op == 255 then 0 else t.ch op
def TM.on (t : TM) (op : Nat) : Bool := !(t.ch op == 255)
def TM.is (t : TM) (op : Nat) (c : Int) : Bool := t.on op && c == t.ch op
theorem set_any (t : TM) (op : Int) (on : Bool) (w : World) : Calls Tryz.prog 114 #[t.val, .int .i64 op, .bool on] w fun e w' => e = .returned (t.set op on).val ∧ Only [] w w' := by
  obtain ⟨ch, fl, inn, out, mn, tm⟩ := t
  refine Hs.enter Tryz.func114 [] [] [] [.g (TM.sc ⟨ch, fl, inn, out, mn, tm⟩), .c (.v (.int .i64 op)), .c (.v (.bool on))] (Mem.start0 w) (by kernel_rfl) (by kernel_rfl) ?_
  refine Hs.run2 300 (fun _ => by kernel_rfl) fun b0 b1 => ?_
  refine Hs.callV (fun w' H => isFlag_any op w') (by kernel_rfl) ?_
  refine Hs.run0 300 (fun _ => by kernel_rfl) ?_
  refine Hs.cond (!isFlagB op) (by kernel_rfl) (fun h => ?_) (fun h => ?_)
  · refine Hs.run0 300 (fun _ => by kernel_rfl) ?_
    exact Hs.ret (v := TM.val ⟨ch, fl, inn, out, mn, tm⟩) Tryz.func114 (by kernel_rfl) fun w' H => ⟨by
      have h : isFlagB op = false := by simpa using h
      simp only [TM.set, setI, h, Bool.false_eq_true, if_false], H.only⟩
  have h : isFlagB op = true := by simpa using h
  obtain ⟨h1, h2⟩ := flag_lo h
  refine Hs.run0 300 (fun _ => by kernel_rfl) ?_
  refine Hs.cond on (by kernel_rfl) (fun ho => ?_) (fun ho => ?_)
  · refine Hs.run0 300 (fun _ => by kernel_rfl) ?_
    refine Hs.any [0, 1006] (by kernel_rfl) ?_
    refine Hs.run0 300 (fun _ => by kernel_rfl) ?_
    refine Hs.callV (fun w' H => bit_any op h1 h2 w') (by kernel_rfl) ?_
    refine Hs.run0 300 (fun _ => by kernel_rfl) ?_
    exact Hs.ret (v := TM.val ⟨ch, IntKind.u64.wrap (((BitVec.ofInt 64 fl) ||| (BitVec.ofInt 64 (bitI op))).toNat), inn, out, mn, tm⟩) Tryz.func114 (by kernel_rfl) fun w' H => ⟨by subst ho; simp only [TM.set, setI, h, if_true], H.only⟩
  · refine Hs.run0 300 (fun _ => by kernel_rfl) ?_
    refine Hs.any [0, 1006] (by kernel_rfl) ?_
    refine Hs.run0 300 (fun _ => by kernel_rfl) ?_
    refine Hs.callV (fun w' H => bit_any op h1 h2 w') (by kernel_rfl) ?_
    refine Hs.run0 300 (fun _ => by kernel_rfl) ?_
    exact Hs.ret (v := TM.val ⟨ch, IntKind.u64.wrap (((BitVec.ofInt 64 fl) &&& ~~~(BitVec.ofInt 64 (bitI op))).toNat), inn, out, mn, tm⟩) Tryz.func114 (by kernel_rfl) fun w' H => ⟨by subst ho; simp only [TM.set, setI, h, if_true, Bool.false_eq_true, if_false], H.only⟩
end Go.Proofs.YtmmcamkmglpgiaaGreatDoor

namespace Go.Proofs.YtmmcamkmglpgiaaGreatDoor
open Go.RowKit
set_option linter.all false
set_option maxRecDepth 100000
def plV (p q : Int) : Value := .agg #[.int .i64 p, .int .i64 q]
def opA (o : OP9) : Value := .agg (cOP o).toArray
abbrev RetB (b : Bool) (w : World) : Ending → World → Prop := fun e w' => e = .returned (.bool b) ∧ Only [] w w'

theorem plCode_any (p q : Int) (o : OP9) (w : World) : Calls Tryz.prog 65 #[plV p q, opA o] w (RetB (withinB o.a 0 255) w) := by
  refine Hs.enter Tryz.func65 [] [] [] [.g [.v (.int .i64 p), .v (.int .i64 q)], .g o.sc] (Mem.start0 w) (by kernel_rfl) (by kernel_rfl) ?_
  refine Hs.run2 300 (fun _ => by kernel_rfl) fun b0 b1 => ?_
  refine Hs.callV (v := .bool (withinB o.a 0 255)) (fun w' H => within_any _ _ _ w') (by kernel_rfl) ?_
  refine Hs.run0 300 (fun _ => by kernel_rfl) ?_
  exact Hs.ret (v := .bool (withinB o.a 0 255)) Tryz.func65 (by kernel_rfl) fun w' H => ⟨rfl, H.only⟩

theorem plCount_any (p q : Int) (o : OP9) (w : World) : Calls Tryz.prog 67 #[plV p q, opA o] w (RetB (withinB o.a 1 1024) w) := by
  refine Hs.enter Tryz.func67 [] [] [] [.g [.v (.int .i64 p), .v (.int .i64 q)], .g o.sc] (Mem.start0 w) (by kernel_rfl) (by kernel_rfl) ?_
  refine Hs.run2 300 (fun _ => by kernel_rfl) fun b0 b1 => ?_
  refine Hs.callV (v := .bool (withinB o.a 1 1024)) (fun w' H => within_any _ _ _ w') (by kernel_rfl) ?_
  refine Hs.run0 300 (fun _ => by kernel_rfl) ?_
  exact Hs.ret (v := .bool (withinB o.a 1 1024)) Tryz.func67 (by kernel_rfl) fun w' H => ⟨rfl, H.only⟩

theorem plFlags_any (p q : Int) (o : OP9) (w : World) : Calls Tryz.prog 69 #[plV p q, opA o] w (RetB (withinB o.a 0 3) w) := by
  refine Hs.enter Tryz.func69 [] [] [] [.g [.v (.int .i64 p), .v (.int .i64 q)], .g o.sc] (Mem.start0 w) (by kernel_rfl) (by kernel_rfl) ?_
  refine Hs.run2 300 (fun _ => by kernel_rfl) fun b0 b1 => ?_
  refine Hs.callV (v := .bool (withinB o.a 0 3)) (fun w' H => within_any _ _ _ w') (by kernel_rfl) ?_
  refine Hs.run0 300 (fun _ => by kernel_rfl) ?_
  exact Hs.ret (v := .bool (withinB o.a 0 3)) Tryz.func69 (by kernel_rfl) fun w' H => ⟨rfl, H.only⟩

theorem plWhose_any (p q : Int) (o : OP9) (w : World) : Calls Tryz.prog 71 #[plV p q, opA o] w (RetB (withinB o.a 0 2) w) := by
  refine Hs.enter Tryz.func71 [] [] [] [.g [.v (.int .i64 p), .v (.int .i64 q)], .g o.sc] (Mem.start0 w) (by kernel_rfl) (by kernel_rfl) ?_
  refine Hs.run2 300 (fun _ => by kernel_rfl) fun b0 b1 => ?_
  refine Hs.callV (v := .bool (withinB o.a 0 2)) (fun w' H => within_any _ _ _ w') (by kernel_rfl) ?_
  refine Hs.run0 300 (fun _ => by kernel_rfl) ?_
  exact Hs.ret (v := .bool (withinB o.a 0 2)) Tryz.func71 (by kernel_rfl) fun w' H => ⟨rfl, H.only⟩

theorem plEither_any (p q : Int) (o : OP9) (w : World) : Calls Tryz.prog 73 #[plV p q, opA o] w (RetB (withinB o.a 0 1) w) := by
  refine Hs.enter Tryz.func73 [] [] [] [.g [.v (.int .i64 p), .v (.int .i64 q)], .g o.sc] (Mem.start0 w) (by kernel_rfl) (by kernel_rfl) ?_
  refine Hs.run2 300 (fun _ => by kernel_rfl) fun b0 b1 => ?_
  refine Hs.callV (v := .bool (withinB o.a 0 1)) (fun w' H => within_any _ _ _ w') (by kernel_rfl) ?_
  refine Hs.run0 300 (fun _ => by kernel_rfl) ?_
  exact Hs.ret (v := .bool (withinB o.a 0 1)) Tryz.func73 (by kernel_rfl) fun w' H => ⟨rfl, H.only⟩

theorem plTime_any (p q : Int) (o : OP9) (w : World) : Calls Tryz.prog 76 #[plV p q, opA o] w (RetB (withinB o.a 0 1000) w) := by
  refine Hs.enter Tryz.func76 [] [] [] [.g [.v (.int .i64 p), .v (.int .i64 q)], .g o.sc] (Mem.start0 w) (by kernel_rfl) (by kernel_rfl) ?_
  refine Hs.run2 300 (fun _ => by kernel_rfl) fun b0 b1 => ?_
  refine Hs.callV (v := .bool (withinB o.a 0 1000)) (fun w' H => within_any _ _ _ w') (by kernel_rfl) ?_
  refine Hs.run0 300 (fun _ => by kernel_rfl) ?_
  exact Hs.ret (v := .bool (withinB o.a 0 1000)) Tryz.func76 (by kernel_rfl) fun w' H => ⟨rfl, H.only⟩

def shortB (o : OP9) : Bool := decide ((o.t.size : Int) ≤ 1024)
theorem plShort_any (p q : Int) (o : OP9) (w : World) : Calls Tryz.prog 66 #[plV p q, opA o] w (RetB (shortB o) w) := by
  refine Hs.enter Tryz.func66 [] [] [] [.g [.v (.int .i64 p), .v (.int .i64 q)], .g o.sc] (Mem.start0 w) (by kernel_rfl) (by kernel_rfl) ?_
  refine Hs.run2 300 (fun _ => by kernel_rfl) fun b0 b1 => ?_
  exact Hs.ret (v := .bool (shortB o)) Tryz.func66 (by kernel_rfl) fun w' H => ⟨rfl, H.only⟩

def laterB (p q a : Int) : Bool := decide (a > p) && decide (a < q)
theorem plLater_any (p q : Int) (o : OP9) (w : World) : Calls Tryz.prog 68 #[plV p q, opA o] w (RetB (laterB p q o.a) w) := by
  refine Hs.enter Tryz.func68 [] [] [] [.g [.v (.int .i64 p), .v (.int .i64 q)], .g o.sc] (Mem.start0 w) (by kernel_rfl) (by kernel_rfl) ?_
  refine Hs.run2 300 (fun _ => by kernel_rfl) fun b0 b1 => ?_
  refine Hs.bool 10 (decide (o.a > p)) (by kernel_rfl) (fun h => ?_) (fun h => ?_)
  · refine Hs.rung0 [5] 300 (fun _ => by kernel_rfl) ?_
    exact Hs.ret (v := .bool (decide (o.a < q))) Tryz.func68 (by kernel_rfl) fun w' H => ⟨by simp only [laterB, h, Bool.true_and], H.only⟩
  · refine Hs.rung0 [5] 300 (fun _ => by kernel_rfl) ?_
    exact Hs.ret (v := .bool false) Tryz.func68 (by kernel_rfl) fun w' H => ⟨by simp only [laterB, h, Bool.false_and], H.only⟩

theorem plAny_any (p q : Int) (o : OP9) (w : World) : Calls Tryz.prog 72 #[plV p q, opA o] w (RetB (true) w) := by
  refine Hs.enter Tryz.func72 [] [] [] [.g [.v (.int .i64 p), .v (.int .i64 q)], .g o.sc] (Mem.start0 w) (by kernel_rfl) (by kernel_rfl) ?_
  refine Hs.run2 300 (fun _ => by kernel_rfl) fun b0 b1 => ?_
  exact Hs.ret (v := .bool true) Tryz.func72 (by kernel_rfl) fun w' H => ⟨rfl, H.only⟩

theorem isSignal_any (n : Int) (w : World) : Calls Tryz.prog 96 #[.int .i64 n] w (RetB (isS n) w) := by
  refine Hs.enter Tryz.func96 [] [] [] [.c (.v (.int .i64 n))] (Mem.start0 w) (by kernel_rfl) (by kernel_rfl) ?_
  refine Hs.run0 300 (fun _ => by kernel_rfl) ?_
  refine Hs.callV (v := .tuple #[.string (if isS n then nameS n else ⟨#[]⟩), .bool (isS n)]) (fun w' H => name_any18 n w') (by kernel_rfl) ?_
  refine Hs.run0 300 (fun _ => by kernel_rfl) ?_
  exact Hs.ret (v := .bool (isS n)) Tryz.func96 (by kernel_rfl) fun w' H => ⟨rfl, H.only⟩

theorem plTarget_any (p q : Int) (o : OP9) (w : World) : Calls Tryz.prog 70 #[plV p q, opA o] w (RetB (withinB o.a 0 4 && isS o.b) w) := by
  refine Hs.enter Tryz.func70 [] [] [] [.g [.v (.int .i64 p), .v (.int .i64 q)], .g o.sc] (Mem.start0 w) (by kernel_rfl) (by kernel_rfl) ?_
  refine Hs.run2 300 (fun _ => by kernel_rfl) fun b0 b1 => ?_
  refine Hs.callV (v := .bool (withinB o.a 0 4)) (fun w' H => within_any _ _ _ w') (by kernel_rfl) ?_
  refine Hs.run0 300 (fun _ => by kernel_rfl) ?_
  refine Hs.bool 8 (withinB o.a 0 4) (by kernel_rfl) (fun h => ?_) (fun h => ?_)
  · refine Hs.rung0 [3] 300 (fun _ => by kernel_rfl) ?_
    refine Hs.callV (v := .bool (isS o.b)) (fun w' H => isSignal_any _ w') (by kernel_rfl) ?_
    refine Hs.rung0 [3] 300 (fun _ => by kernel_rfl) ?_
    exact Hs.ret (v := .bool (isS o.b)) Tryz.func70 (by kernel_rfl) fun w' H => ⟨by rw [h]; rfl, H.only⟩
  · refine Hs.rung0 [3] 300 (fun _ => by kernel_rfl) ?_
    exact Hs.ret (v := .bool false) Tryz.func70 (by kernel_rfl) fun w' H => ⟨by rw [h]; rfl, H.only⟩

theorem plMask_any (p q : Int) (o : OP9) (w : World) : Calls Tryz.prog 75 #[plV p q, opA o] w (RetB (isS o.a && withinB o.b 0 1) w) := by
  refine Hs.enter Tryz.func75 [] [] [] [.g [.v (.int .i64 p), .v (.int .i64 q)], .g o.sc] (Mem.start0 w) (by kernel_rfl) (by kernel_rfl) ?_
  refine Hs.run2 300 (fun _ => by kernel_rfl) fun b0 b1 => ?_
  refine Hs.callV (v := .bool (isS o.a)) (fun w' H => isSignal_any _ w') (by kernel_rfl) ?_
  refine Hs.run0 300 (fun _ => by kernel_rfl) ?_
  refine Hs.bool 8 (isS o.a) (by kernel_rfl) (fun h => ?_) (fun h => ?_)
  · refine Hs.rung0 [3] 300 (fun _ => by kernel_rfl) ?_
    refine Hs.callV (v := .bool (withinB o.b 0 1)) (fun w' H => within_any _ _ _ w') (by kernel_rfl) ?_
    refine Hs.rung0 [3] 300 (fun _ => by kernel_rfl) ?_
    exact Hs.ret (v := .bool (withinB o.b 0 1)) Tryz.func75 (by kernel_rfl) fun w' H => ⟨by rw [h]; rfl, H.only⟩
  · refine Hs.rung0 [3] 300 (fun _ => by kernel_rfl) ?_
    exact Hs.ret (v := .bool false) Tryz.func75 (by kernel_rfl) fun w' H => ⟨by rw [h]; rfl, H.only⟩

def tm0 : TM := ⟨fun _ => 0, 0, 0, 0, 0, 0⟩
theorem flag_cases {n : Int} (h : isFlagB n = true) : n = 30 ∨ n = 31 ∨ n = 32 ∨ n = 33 ∨ n = 34 ∨ n = 35 ∨ n = 36 ∨ n = 37 ∨ n = 38 ∨ n = 39 ∨ n = 40 ∨ n = 41 ∨ n = 42 ∨ n = 50 ∨ n = 51 ∨ n = 52 ∨ n = 53 ∨ n = 54 ∨ n = 55 ∨ n = 56 ∨ n = 57 ∨ n = 58 ∨ n = 59 ∨ n = 60 ∨ n = 61 ∨ n = 62 ∨ n = 70 ∨ n = 71 ∨ n = 72 ∨ n = 73 ∨ n = 74 ∨ n = 75 ∨ n = 90 ∨ n = 91 ∨ n = 92 ∨ n = 93 := by
  simp only [isFlagB, Bool.or_eq_true, Bool.and_eq_true, decide_eq_true_eq] at h
  omega
theorem flag_set (n : Int) : (!((setI 0 n true == 0) && true)) = isFlagB n := by
  cases hf : isFlagB n with
  | false => unfold setI; rw [hf]; rfl
  | true =>
    rcases flag_cases hf with rfl | rfl | rfl | rfl | rfl | rfl | rfl | rfl | rfl | rfl | rfl | rfl | rfl | rfl | rfl | rfl | rfl | rfl | rfl | rfl | rfl | rfl | rfl | rfl | rfl | rfl | rfl | rfl | rfl | rfl | rfl | rfl | rfl | rfl | rfl | rfl <;> decide
theorem isFlag9_any (n : Int) (w : World) : Calls Tryz.prog 98 #[.int .i64 n] w (RetB (isFlagB n) w) := by
  refine Hs.enter Tryz.func98 [] [] [] [.c (.v (.int .i64 n))] (Mem.start0 w) (by kernel_rfl) (by kernel_rfl) ?_
  refine Hs.run1 300 (fun _ => by kernel_rfl) fun b0 => ?_
  refine Hs.any [0] (by kernel_rfl) ?_
  refine Hs.run0 300 (fun _ => by kernel_rfl) ?_
  refine Hs.callV (v := (tm0.set n true).val) (fun w' H => set_any tm0 n true w') (by kernel_rfl) ?_
  refine Hs.sel1 4 (by kernel_rfl) ?_
  refine Hs.cmp (op := .neq) (T := 150) (tm0.set n true).cells.toArray tm0.cells.toArray ((setI 0 n true == 0) && true) (!((setI 0 n true == 0) && true)) (by kernel_rfl) (.inr ⟨rfl, rfl⟩) (by kernel_rfl) (by kernel_rfl) ?_
  refine Hs.run0 300 (fun _ => by kernel_rfl) ?_
  exact Hs.ret (v := .bool (!((setI 0 n true == 0) && true))) Tryz.func98 (by kernel_rfl) fun w' H => ⟨by rw [flag_set], H.only⟩

def sureB (n : Int) : Bool := decide (n = 9) || decide (n = 19)
theorem sure_any (n : Int) (w : World) : Calls Tryz.prog 113 #[.int .i64 n] w (RetB (sureB n) w) := by
  refine Hs.enter Tryz.func113 [] [] [] [.c (.v (.int .i64 n))] (Mem.start0 w) (by kernel_rfl) (by kernel_rfl) ?_
  refine Hs.run0 300 (fun _ => by kernel_rfl) ?_
  refine Hs.bool 5 (decide (n = 9)) (by kernel_rfl) (fun h => ?_) (fun h => ?_)
  · refine Hs.rung0 [2] 300 (fun _ => by kernel_rfl) ?_
    exact Hs.ret (v := .bool true) Tryz.func113 (by kernel_rfl) fun w' H => ⟨by simp only [sureB, h, Bool.true_or], H.only⟩
  · refine Hs.rung0 [2] 300 (fun _ => by kernel_rfl) ?_
    exact Hs.ret (v := .bool (decide (n = 19))) Tryz.func113 (by kernel_rfl) fun w' H => ⟨by simp only [sureB, h, Bool.false_or], H.only⟩

end Go.Proofs.YtmmcamkmglpgiaaGreatDoor

namespace Go.Proofs.YtmmcamkmglpgiaaGreatDoor
open Go.RowKit
set_option linter.all false
set_option maxRecDepth 100000
def actV (A : Nat → Int) : Value := .agg #[.int .i64 (A 0), .int .i64 (A 1), .int .i64 (A 2), .int .i64 (A 3), .int .i64 (A 4), .int .i64 (A 5), .int .i64 (A 6), .int .i64 (A 7), .int .i64 (A 8), .int .i64 (A 9), .int .i64 (A 10), .int .i64 (A 11), .int .i64 (A 12), .int .i64 (A 13), .int .i64 (A 14), .int .i64 (A 15), .int .i64 (A 16), .int .i64 (A 17), .int .i64 (A 18), .int .i64 (A 19), .int .i64 (A 20), .int .i64 (A 21), .int .i64 (A 22), .int .i64 (A 23), .int .i64 (A 24), .int .i64 (A 25), .int .i64 (A 26), .int .i64 (A 27), .int .i64 (A 28), .int .i64 (A 29), .int .i64 (A 30), .int .i64 (A 31)]
def actOk (sig how : Int) : Bool := isS sig && (!sureB sig && withinB how 0 2)
theorem sig_cases {n : Int} (h : isS n = true) (h2 : sureB n = false) : n = 1 ∨ n = 2 ∨ n = 3 ∨ n = 4 ∨ n = 5 ∨ n = 6 ∨ n = 7 ∨ n = 8 ∨ n = 10 ∨ n = 11 ∨ n = 12 ∨ n = 13 ∨ n = 14 ∨ n = 15 ∨ n = 17 ∨ n = 18 ∨ n = 20 ∨ n = 21 ∨ n = 22 ∨ n = 28 := by
  simp only [isS, sureB, Bool.or_eq_true, Bool.and_eq_true, Bool.or_eq_false_iff, decide_eq_true_eq, decide_eq_false_iff_not] at h h2
  omega
abbrev ActR (sig how : Int) (w : World) : Ending → World → Prop := fun e w' => ∃ A : Nat → Int, e = .returned (.tuple #[actV A, .int .i64 (if actOk sig how then 0 else 2)]) ∧ Only [] w w' ∧ True
theorem sgAct_any (sig how : Int) (w : World) : Calls Tryz.prog 97 #[actV (fun _ => 0), .int .i64 sig, .int .i64 how] w (ActR sig how w) := by
  have hC := fun w => is_any18 sig w
  have hD := fun w => sure_any sig w
  refine Hs.enter Tryz.func97 [] [] [] [.c (.v (actV (fun _ => 0))), .c (.v (.int .i64 sig)), .c (.v (.int .i64 how))] (Mem.start0 w) (by kernel_rfl) (by kernel_rfl) ?_
  refine Hs.run2 300 (fun _ => by kernel_rfl) fun b0 b1 => ?_
  cases hS : isS sig with
  | false =>
    rw [hS] at hC
    have hok : actOk sig how = false := by unfold actOk; rw [hS]; rfl
    refine Hs.callV (v := .bool false) (fun w' H => hC w') (by kernel_rfl) ?_
    refine Hs.run0 300 (fun _ => by kernel_rfl) ?_
    refine Hs.rung0 [3] 300 (fun _ => by kernel_rfl) ?_
    refine Hs.rung0 [3, 7] 300 (fun _ => by kernel_rfl) ?_
    refine Hs.rung0 [3, 7, 11] 300 (fun _ => by kernel_rfl) ?_
    refine Hs.condT (by kernel_rfl) ?_
    refine Hs.run0 300 (fun _ => by kernel_rfl) ?_
    exact Hs.ret (v := .tuple #[actV (fun _ => 0), .int .i64 2]) Tryz.func97 (by kernel_rfl) fun w' H => ⟨fun _ => 0, by rw [hok]; rfl, H.only, trivial⟩
  | true =>
    rw [hS] at hC
    refine Hs.callV (v := .bool true) (fun w' H => hC w') (by kernel_rfl) ?_
    refine Hs.run0 300 (fun _ => by kernel_rfl) ?_
    refine Hs.rung0 [3] 300 (fun _ => by kernel_rfl) ?_
    cases hU : sureB sig with
    | true =>
      rw [hU] at hD
      have hok : actOk sig how = false := by unfold actOk; rw [hS, hU]; rfl
      refine Hs.callV (v := .bool true) (fun w' H => hD w') (by kernel_rfl) ?_
      refine Hs.rung0 [3] 300 (fun _ => by kernel_rfl) ?_
      refine Hs.rung0 [3, 7] 300 (fun _ => by kernel_rfl) ?_
      refine Hs.rung0 [3, 7, 11] 300 (fun _ => by kernel_rfl) ?_
      refine Hs.condT (by kernel_rfl) ?_
      refine Hs.run0 300 (fun _ => by kernel_rfl) ?_
      exact Hs.ret (v := .tuple #[actV (fun _ => 0), .int .i64 2]) Tryz.func97 (by kernel_rfl) fun w' H => ⟨fun _ => 0, by rw [hok]; rfl, H.only, trivial⟩
    | false =>
      rw [hU] at hD
      refine Hs.callV (v := .bool false) (fun w' H => hD w') (by kernel_rfl) ?_
      refine Hs.rung0 [3] 300 (fun _ => by kernel_rfl) ?_
      refine Hs.rung0 [3, 7] 300 (fun _ => by kernel_rfl) ?_
      refine Hs.bool 19 (decide (how < 0)) (by kernel_rfl) (fun h => ?_) (fun h => ?_)
      · have hok : actOk sig how = false := by
          have := of_decide_eq_true h
          unfold actOk withinB; rw [show decide (0 ≤ how) = false from decide_eq_false (by omega)]; simp
        refine Hs.rung0 [3, 7, 11] 300 (fun _ => by kernel_rfl) ?_
        refine Hs.condT (by kernel_rfl) ?_
        refine Hs.run0 300 (fun _ => by kernel_rfl) ?_
        exact Hs.ret (v := .tuple #[actV (fun _ => 0), .int .i64 2]) Tryz.func97 (by kernel_rfl) fun w' H => ⟨fun _ => 0, by rw [hok]; rfl, H.only, trivial⟩
      have h0 := of_decide_eq_false h
      refine Hs.rung0 [3, 7, 11] 300 (fun _ => by kernel_rfl) ?_
      refine Hs.condP (how > 2) (by kernel_rfl) (fun h2 => ?_) (fun h2 => ?_)
      · have hok : actOk sig how = false := by
          unfold actOk withinB; rw [show decide (how ≤ 2) = false from decide_eq_false (by omega)]; simp
        refine Hs.run0 300 (fun _ => by kernel_rfl) ?_
        exact Hs.ret (v := .tuple #[actV (fun _ => 0), .int .i64 2]) Tryz.func97 (by kernel_rfl) fun w' H => ⟨fun _ => 0, by rw [hok]; rfl, H.only, trivial⟩
      have hok : actOk sig how = true := by
        unfold actOk withinB; rw [hS, hU, show decide (how ≤ 2) = true from decide_eq_true (by omega), show decide (0 ≤ how) = true from decide_eq_true (by omega)]; rfl
      have e1 : ActR sig how w = fun e w' => ∃ A : Nat → Int, e = .returned (.tuple #[actV A, .int .i64 0]) ∧ Only [] w w' ∧ True := by
        unfold ActR; rw [hok]; rfl
      rw [e1]
      clear hC hD hok e1 h0 h h2
      rcases sig_cases hS hU with rfl | rfl | rfl | rfl | rfl | rfl | rfl | rfl | rfl | rfl | rfl | rfl | rfl | rfl | rfl | rfl | rfl | rfl | rfl | rfl
      · refine Hs.run0 300 (fun _ => by kernel_rfl) ?_
        exact Hs.ret (v := .tuple #[actV fun i => if i = 1 then how else 0, .int .i64 0]) Tryz.func97 (by kernel_rfl) fun w' H => ⟨fun i => if i = 1 then how else 0, rfl, H.only, trivial⟩
      · refine Hs.run0 300 (fun _ => by kernel_rfl) ?_
        exact Hs.ret (v := .tuple #[actV fun i => if i = 2 then how else 0, .int .i64 0]) Tryz.func97 (by kernel_rfl) fun w' H => ⟨fun i => if i = 2 then how else 0, rfl, H.only, trivial⟩
      · refine Hs.run0 300 (fun _ => by kernel_rfl) ?_
        exact Hs.ret (v := .tuple #[actV fun i => if i = 3 then how else 0, .int .i64 0]) Tryz.func97 (by kernel_rfl) fun w' H => ⟨fun i => if i = 3 then how else 0, rfl, H.only, trivial⟩
      · refine Hs.run0 300 (fun _ => by kernel_rfl) ?_
        exact Hs.ret (v := .tuple #[actV fun i => if i = 4 then how else 0, .int .i64 0]) Tryz.func97 (by kernel_rfl) fun w' H => ⟨fun i => if i = 4 then how else 0, rfl, H.only, trivial⟩
      · refine Hs.run0 300 (fun _ => by kernel_rfl) ?_
        exact Hs.ret (v := .tuple #[actV fun i => if i = 5 then how else 0, .int .i64 0]) Tryz.func97 (by kernel_rfl) fun w' H => ⟨fun i => if i = 5 then how else 0, rfl, H.only, trivial⟩
      · refine Hs.run0 300 (fun _ => by kernel_rfl) ?_
        exact Hs.ret (v := .tuple #[actV fun i => if i = 6 then how else 0, .int .i64 0]) Tryz.func97 (by kernel_rfl) fun w' H => ⟨fun i => if i = 6 then how else 0, rfl, H.only, trivial⟩
      · refine Hs.run0 300 (fun _ => by kernel_rfl) ?_
        exact Hs.ret (v := .tuple #[actV fun i => if i = 7 then how else 0, .int .i64 0]) Tryz.func97 (by kernel_rfl) fun w' H => ⟨fun i => if i = 7 then how else 0, rfl, H.only, trivial⟩
      · refine Hs.run0 300 (fun _ => by kernel_rfl) ?_
        exact Hs.ret (v := .tuple #[actV fun i => if i = 8 then how else 0, .int .i64 0]) Tryz.func97 (by kernel_rfl) fun w' H => ⟨fun i => if i = 8 then how else 0, rfl, H.only, trivial⟩
      · refine Hs.run0 300 (fun _ => by kernel_rfl) ?_
        exact Hs.ret (v := .tuple #[actV fun i => if i = 10 then how else 0, .int .i64 0]) Tryz.func97 (by kernel_rfl) fun w' H => ⟨fun i => if i = 10 then how else 0, rfl, H.only, trivial⟩
      · refine Hs.run0 300 (fun _ => by kernel_rfl) ?_
        exact Hs.ret (v := .tuple #[actV fun i => if i = 11 then how else 0, .int .i64 0]) Tryz.func97 (by kernel_rfl) fun w' H => ⟨fun i => if i = 11 then how else 0, rfl, H.only, trivial⟩
      · refine Hs.run0 300 (fun _ => by kernel_rfl) ?_
        exact Hs.ret (v := .tuple #[actV fun i => if i = 12 then how else 0, .int .i64 0]) Tryz.func97 (by kernel_rfl) fun w' H => ⟨fun i => if i = 12 then how else 0, rfl, H.only, trivial⟩
      · refine Hs.run0 300 (fun _ => by kernel_rfl) ?_
        exact Hs.ret (v := .tuple #[actV fun i => if i = 13 then how else 0, .int .i64 0]) Tryz.func97 (by kernel_rfl) fun w' H => ⟨fun i => if i = 13 then how else 0, rfl, H.only, trivial⟩
      · refine Hs.run0 300 (fun _ => by kernel_rfl) ?_
        exact Hs.ret (v := .tuple #[actV fun i => if i = 14 then how else 0, .int .i64 0]) Tryz.func97 (by kernel_rfl) fun w' H => ⟨fun i => if i = 14 then how else 0, rfl, H.only, trivial⟩
      · refine Hs.run0 300 (fun _ => by kernel_rfl) ?_
        exact Hs.ret (v := .tuple #[actV fun i => if i = 15 then how else 0, .int .i64 0]) Tryz.func97 (by kernel_rfl) fun w' H => ⟨fun i => if i = 15 then how else 0, rfl, H.only, trivial⟩
      · refine Hs.run0 300 (fun _ => by kernel_rfl) ?_
        exact Hs.ret (v := .tuple #[actV fun i => if i = 17 then how else 0, .int .i64 0]) Tryz.func97 (by kernel_rfl) fun w' H => ⟨fun i => if i = 17 then how else 0, rfl, H.only, trivial⟩
      · refine Hs.run0 300 (fun _ => by kernel_rfl) ?_
        exact Hs.ret (v := .tuple #[actV fun i => if i = 18 then how else 0, .int .i64 0]) Tryz.func97 (by kernel_rfl) fun w' H => ⟨fun i => if i = 18 then how else 0, rfl, H.only, trivial⟩
      · refine Hs.run0 300 (fun _ => by kernel_rfl) ?_
        exact Hs.ret (v := .tuple #[actV fun i => if i = 20 then how else 0, .int .i64 0]) Tryz.func97 (by kernel_rfl) fun w' H => ⟨fun i => if i = 20 then how else 0, rfl, H.only, trivial⟩
      · refine Hs.run0 300 (fun _ => by kernel_rfl) ?_
        exact Hs.ret (v := .tuple #[actV fun i => if i = 21 then how else 0, .int .i64 0]) Tryz.func97 (by kernel_rfl) fun w' H => ⟨fun i => if i = 21 then how else 0, rfl, H.only, trivial⟩
      · refine Hs.run0 300 (fun _ => by kernel_rfl) ?_
        exact Hs.ret (v := .tuple #[actV fun i => if i = 22 then how else 0, .int .i64 0]) Tryz.func97 (by kernel_rfl) fun w' H => ⟨fun i => if i = 22 then how else 0, rfl, H.only, trivial⟩
      · refine Hs.run0 300 (fun _ => by kernel_rfl) ?_
        exact Hs.ret (v := .tuple #[actV fun i => if i = 28 then how else 0, .int .i64 0]) Tryz.func97 (by kernel_rfl) fun w' H => ⟨fun i => if i = 28 then how else 0, rfl, H.only, trivial⟩
end Go.Proofs.YtmmcamkmglpgiaaGreatDoor

namespace Go.Proofs.YtmmcamkmglpgiaaGreatDoor
open Go.RowKit
set_option linter.all false
set_option maxRecDepth 100000
theorem plAct_any (p q : Int) (o : OP9) (w : World) : Calls Tryz.prog 74 #[plV p q, opA o] w (RetB (actOk o.a o.b) w) := by
  have hC := fun w => sgAct_any o.a o.b w
  unfold ActR at hC
  refine Hs.enter Tryz.func74 [] [] [] [.g [.v (.int .i64 p), .v (.int .i64 q)], .g o.sc] (Mem.start0 w) (by kernel_rfl) (by kernel_rfl) ?_
  refine Hs.run2 300 (fun _ => by kernel_rfl) fun b0 b1 => ?_
  cases hA : actOk o.a o.b with
  | false =>
    rw [hA] at hC
    refine Hs.callX (v := fun A => .tuple #[actV A, .int .i64 2]) (Q := fun _ => True) (fun w' H => hC w') (by kernel_rfl) fun A _ => ?_
    refine Hs.run1 300 (fun _ => by kernel_rfl) fun b2 => ?_
    exact Hs.ret (v := .bool false) Tryz.func74 (by kernel_rfl) fun w' H => ⟨rfl, H.only⟩
  | true =>
    rw [hA] at hC
    refine Hs.callX (v := fun A => .tuple #[actV A, .int .i64 0]) (Q := fun _ => True) (fun w' H => hC w') (by kernel_rfl) fun A _ => ?_
    refine Hs.run1 300 (fun _ => by kernel_rfl) fun b2 => ?_
    exact Hs.ret (v := .bool true) Tryz.func74 (by kernel_rfl) fun w' H => ⟨rfl, H.only⟩
theorem plMode_any (p q : Int) (o : OP9) (w : World) : Calls Tryz.prog 77 #[plV p q, opA o] w (RetB (isFlagB o.a && withinB o.b 0 1) w) := by
  refine Hs.enter Tryz.func77 [] [] [] [.g [.v (.int .i64 p), .v (.int .i64 q)], .g o.sc] (Mem.start0 w) (by kernel_rfl) (by kernel_rfl) ?_
  refine Hs.run2 300 (fun _ => by kernel_rfl) fun b0 b1 => ?_
  refine Hs.callV (v := .bool (isFlagB o.a)) (fun w' H => isFlag9_any _ w') (by kernel_rfl) ?_
  refine Hs.run0 300 (fun _ => by kernel_rfl) ?_
  refine Hs.bool 8 (isFlagB o.a) (by kernel_rfl) (fun h => ?_) (fun h => ?_)
  · refine Hs.rung0 [3] 300 (fun _ => by kernel_rfl) ?_
    refine Hs.callV (v := .bool (withinB o.b 0 1)) (fun w' H => within_any _ _ _ w') (by kernel_rfl) ?_
    refine Hs.rung0 [3] 300 (fun _ => by kernel_rfl) ?_
    exact Hs.ret (v := .bool (withinB o.b 0 1)) Tryz.func77 (by kernel_rfl) fun w' H => ⟨by rw [h]; rfl, H.only⟩
  · refine Hs.rung0 [3] 300 (fun _ => by kernel_rfl) ?_
    exact Hs.ret (v := .bool false) Tryz.func77 (by kernel_rfl) fun w' H => ⟨by rw [h]; rfl, H.only⟩
/-- What is asked of an operation of a kind. -/
def askB (k : Nat) (p q : Int) (o : OP9) : Bool := match k with
  | 1 => withinB o.a 0 255
  | 2 => shortB o
  | 3 => shortB o
  | 4 => withinB o.a 1 1024
  | 5 => laterB p q o.a
  | 6 => laterB p q o.a
  | 7 => withinB o.a 0 3
  | 8 => withinB o.a 0 4 && isS o.b
  | 9 => withinB o.a 0 2
  | 11 => withinB o.a 0 1
  | 12 => actOk o.a o.b
  | 13 => isS o.a && withinB o.b 0 1
  | 14 => withinB o.a 0 1000
  | 15 => isFlagB o.a && withinB o.b 0 1
  | _ => true
def shN (k : Nat) : Nat := match k with
  | 10 => 0
  | 16 => 0
  | 8 => 2
  | 12 => 2
  | 13 => 2
  | 15 => 2
  | 2 => 3
  | 3 => 3
  | _ => 1
def textE (t : ByteArray) : Bool := !(t.toList == (⟨#[]⟩ : ByteArray).toList)
def restB (k : Nat) (p q : Int) (o : OP9) : Bool := !(!(Nat.beq (shN k) 3) && textE o.t) && (!(!(Nat.beq (shN k) 2) && o.b != 0) && (!(!(Nat.beq (shN k) 2) && !(Nat.beq (shN k) 1) && o.a != 0) && askB k p q o))
def rightB (o : OP9) (p q : Int) : Bool := withinB o.k 1 16 && restB o.k.toNat p q o
theorem right_out (o : OP9) (p q : Int) (h : withinB o.k 1 16 = false) (w : World) : Calls Tryz.prog 41 #[opA o, .int .i64 p, .int .i64 q] w (RetB false w) := by
  have hC := fun w => within_any o.k 1 16 w
  rw [h] at hC
  refine Hs.enter Tryz.func41 [] [] [] [.g o.sc, .c (.v (.int .i64 p)), .c (.v (.int .i64 q))] (Mem.start0 w) (by kernel_rfl) (by kernel_rfl) ?_
  refine Hs.run1 300 (fun _ => by kernel_rfl) fun b0 => ?_
  refine Hs.callV (v := .bool false) (fun w' H => hC w') (by kernel_rfl) ?_
  refine Hs.run0 300 (fun _ => by kernel_rfl) ?_
  refine Hs.condT (by kernel_rfl) ?_
  refine Hs.run0 300 (fun _ => by kernel_rfl) ?_
  exact Hs.ret (v := .bool false) Tryz.func41 (by kernel_rfl) fun w' H => ⟨rfl, H.only⟩
theorem right_1 (a b : Int) (t : ByteArray) (p q : Int) (w : World) : Calls Tryz.prog 41 #[opA ⟨1, a, b, t⟩, .int .i64 p, .int .i64 q] w (RetB (restB 1 p q ⟨1, a, b, t⟩) w) := by
  have hR : restB 1 p q ⟨1, a, b, t⟩ = (!(textE t) && (!(b != 0) && (withinB a 0 255))) := rfl
  rw [hR]
  refine Hs.enter Tryz.func41 [] [] [] [.g [.v (.int .i64 1), .v (.int .i64 a), .v (.int .i64 b), .v (.string t)], .c (.v (.int .i64 p)), .c (.v (.int .i64 q))] (Mem.start0 w) (by kernel_rfl) (by kernel_rfl) ?_
  refine Hs.run1 300 (fun _ => by kernel_rfl) fun b0 => ?_
  refine Hs.callV (v := .bool true) (fun w' H => within_any 1 1 16 w') (by kernel_rfl) ?_
  refine Hs.run0 300 (fun _ => by kernel_rfl) ?_
  refine Hs.condF (by kernel_rfl) ?_
  refine Hs.run0 300 (fun _ => by kernel_rfl) ?_
  refine Hs.any [0] (by kernel_rfl) ?_
  refine Hs.run0 300 (fun _ => by kernel_rfl) ?_
  apply Hs.share1 (β' := [] ++ [b0])
  · intro K
    refine Hs.branch2 0 4 (by kernel_rfl) ?_ ?_
    · refine Hs.callV (v := .agg sortC.toArray) (fun w' H => sorts_any w') (by kernel_rfl) ?_
      refine Hs.run1 300 (fun _ => by kernel_rfl) fun b1 => ?_
      exact K b1
    · refine Hs.run1 300 (fun _ => by kernel_rfl) fun b1 => ?_
      refine Hs.callV (v := .agg sortC.toArray) (fun w' H => sorts_any w') (by kernel_rfl) ?_
      refine Hs.run0 300 (fun _ => by kernel_rfl) ?_
      exact Hs.eqM (K b1) (by kernel_rfl) (by kernel_rfl)
  intro b1
  refine Hs.rung0 [3, 8] 300 (fun _ => by kernel_rfl) ?_
  refine Hs.bool 16 (textE t) (by kernel_rfl) (fun ht => ?_) (fun ht => ?_)
  · refine Hs.condT (by kernel_rfl) ?_
    refine Hs.rung0 [3, 8] 300 (fun _ => by kernel_rfl) ?_
    refine Hs.condT (by kernel_rfl) ?_
    refine Hs.run0 300 (fun _ => by kernel_rfl) ?_
    exact Hs.ret (v := .bool false) Tryz.func41 (by kernel_rfl) fun w' H => ⟨by rw [show (textE t) = true from ht]; rfl, H.only⟩
  refine Hs.condF (by kernel_rfl) ?_
  refine Hs.rung0 [3, 8] 300 (fun _ => by kernel_rfl) ?_
  refine Hs.bool 16 (b != 0) (by kernel_rfl) (fun hb => ?_) (fun hb => ?_)
  · refine Hs.condT (by kernel_rfl) ?_
    refine Hs.rung0 [3, 8] 300 (fun _ => by kernel_rfl) ?_
    refine Hs.condT (by kernel_rfl) ?_
    refine Hs.run0 300 (fun _ => by kernel_rfl) ?_
    exact Hs.ret (v := .bool false) Tryz.func41 (by kernel_rfl) fun w' H => ⟨by rw [show (textE t) = false from ht]; rw [show (b != 0) = true from hb]; rfl, H.only⟩
  refine Hs.condF (by kernel_rfl) ?_
  refine Hs.rung0 [3, 8] 300 (fun _ => by kernel_rfl) ?_
  refine Hs.condF (by kernel_rfl) ?_
  refine Hs.run0 300 (fun _ => by kernel_rfl) ?_
  refine Hs.callV (v := .bool (withinB a 0 255)) (fun w' H => plCode_any p q ⟨1, a, b, t⟩ w') (by kernel_rfl) ?_
  refine Hs.run0 300 (fun _ => by kernel_rfl) ?_
  exact Hs.ret (v := .bool (withinB a 0 255)) Tryz.func41 (by kernel_rfl) fun w' H => ⟨by rw [show (textE t) = false from ht]; rw [show (b != 0) = false from hb]; rfl, H.only⟩
theorem right_2 (a b : Int) (t : ByteArray) (p q : Int) (w : World) : Calls Tryz.prog 41 #[opA ⟨2, a, b, t⟩, .int .i64 p, .int .i64 q] w (RetB (restB 2 p q ⟨2, a, b, t⟩) w) := by
  have hR : restB 2 p q ⟨2, a, b, t⟩ = (!(b != 0) && (!(a != 0) && (shortB ⟨2, a, b, t⟩))) := rfl
  rw [hR]
  refine Hs.enter Tryz.func41 [] [] [] [.g [.v (.int .i64 2), .v (.int .i64 a), .v (.int .i64 b), .v (.string t)], .c (.v (.int .i64 p)), .c (.v (.int .i64 q))] (Mem.start0 w) (by kernel_rfl) (by kernel_rfl) ?_
  refine Hs.run1 300 (fun _ => by kernel_rfl) fun b0 => ?_
  refine Hs.callV (v := .bool true) (fun w' H => within_any 2 1 16 w') (by kernel_rfl) ?_
  refine Hs.run0 300 (fun _ => by kernel_rfl) ?_
  refine Hs.condF (by kernel_rfl) ?_
  refine Hs.run0 300 (fun _ => by kernel_rfl) ?_
  refine Hs.any [0] (by kernel_rfl) ?_
  refine Hs.run0 300 (fun _ => by kernel_rfl) ?_
  apply Hs.share1 (β' := [] ++ [b0])
  · intro K
    refine Hs.branch2 0 4 (by kernel_rfl) ?_ ?_
    · refine Hs.callV (v := .agg sortC.toArray) (fun w' H => sorts_any w') (by kernel_rfl) ?_
      refine Hs.run1 300 (fun _ => by kernel_rfl) fun b1 => ?_
      exact K b1
    · refine Hs.run1 300 (fun _ => by kernel_rfl) fun b1 => ?_
      refine Hs.callV (v := .agg sortC.toArray) (fun w' H => sorts_any w') (by kernel_rfl) ?_
      refine Hs.run0 300 (fun _ => by kernel_rfl) ?_
      exact Hs.eqM (K b1) (by kernel_rfl) (by kernel_rfl)
  intro b1
  refine Hs.rung0 [3, 8] 300 (fun _ => by kernel_rfl) ?_
  refine Hs.condF (by kernel_rfl) ?_
  refine Hs.rung0 [3, 8] 300 (fun _ => by kernel_rfl) ?_
  refine Hs.bool 16 (b != 0) (by kernel_rfl) (fun hb => ?_) (fun hb => ?_)
  · refine Hs.condT (by kernel_rfl) ?_
    refine Hs.rung0 [3, 8] 300 (fun _ => by kernel_rfl) ?_
    refine Hs.condT (by kernel_rfl) ?_
    refine Hs.run0 300 (fun _ => by kernel_rfl) ?_
    exact Hs.ret (v := .bool false) Tryz.func41 (by kernel_rfl) fun w' H => ⟨by rw [show (b != 0) = true from hb]; rfl, H.only⟩
  refine Hs.condF (by kernel_rfl) ?_
  refine Hs.rung0 [3, 8] 300 (fun _ => by kernel_rfl) ?_
  refine Hs.bool 16 (a != 0) (by kernel_rfl) (fun ha => ?_) (fun ha => ?_)
  · refine Hs.condT (by kernel_rfl) ?_
    
    
    refine Hs.run0 300 (fun _ => by kernel_rfl) ?_
    exact Hs.ret (v := .bool false) Tryz.func41 (by kernel_rfl) fun w' H => ⟨by rw [show (b != 0) = false from hb]; rw [show (a != 0) = true from ha]; rfl, H.only⟩
  refine Hs.condF (by kernel_rfl) ?_
  refine Hs.run0 300 (fun _ => by kernel_rfl) ?_
  refine Hs.callV (v := .bool (shortB ⟨2, a, b, t⟩)) (fun w' H => plShort_any p q ⟨2, a, b, t⟩ w') (by kernel_rfl) ?_
  refine Hs.run0 300 (fun _ => by kernel_rfl) ?_
  exact Hs.ret (v := .bool (shortB ⟨2, a, b, t⟩)) Tryz.func41 (by kernel_rfl) fun w' H => ⟨by rw [show (b != 0) = false from hb]; rw [show (a != 0) = false from ha]; rfl, H.only⟩
theorem right_3 (a b : Int) (t : ByteArray) (p q : Int) (w : World) : Calls Tryz.prog 41 #[opA ⟨3, a, b, t⟩, .int .i64 p, .int .i64 q] w (RetB (restB 3 p q ⟨3, a, b, t⟩) w) := by
  have hR : restB 3 p q ⟨3, a, b, t⟩ = (!(b != 0) && (!(a != 0) && (shortB ⟨3, a, b, t⟩))) := rfl
  rw [hR]
  refine Hs.enter Tryz.func41 [] [] [] [.g [.v (.int .i64 3), .v (.int .i64 a), .v (.int .i64 b), .v (.string t)], .c (.v (.int .i64 p)), .c (.v (.int .i64 q))] (Mem.start0 w) (by kernel_rfl) (by kernel_rfl) ?_
  refine Hs.run1 300 (fun _ => by kernel_rfl) fun b0 => ?_
  refine Hs.callV (v := .bool true) (fun w' H => within_any 3 1 16 w') (by kernel_rfl) ?_
  refine Hs.run0 300 (fun _ => by kernel_rfl) ?_
  refine Hs.condF (by kernel_rfl) ?_
  refine Hs.run0 300 (fun _ => by kernel_rfl) ?_
  refine Hs.any [0] (by kernel_rfl) ?_
  refine Hs.run0 300 (fun _ => by kernel_rfl) ?_
  apply Hs.share1 (β' := [] ++ [b0])
  · intro K
    refine Hs.branch2 0 4 (by kernel_rfl) ?_ ?_
    · refine Hs.callV (v := .agg sortC.toArray) (fun w' H => sorts_any w') (by kernel_rfl) ?_
      refine Hs.run1 300 (fun _ => by kernel_rfl) fun b1 => ?_
      exact K b1
    · refine Hs.run1 300 (fun _ => by kernel_rfl) fun b1 => ?_
      refine Hs.callV (v := .agg sortC.toArray) (fun w' H => sorts_any w') (by kernel_rfl) ?_
      refine Hs.run0 300 (fun _ => by kernel_rfl) ?_
      exact Hs.eqM (K b1) (by kernel_rfl) (by kernel_rfl)
  intro b1
  refine Hs.rung0 [3, 8] 300 (fun _ => by kernel_rfl) ?_
  refine Hs.condF (by kernel_rfl) ?_
  refine Hs.rung0 [3, 8] 300 (fun _ => by kernel_rfl) ?_
  refine Hs.bool 16 (b != 0) (by kernel_rfl) (fun hb => ?_) (fun hb => ?_)
  · refine Hs.condT (by kernel_rfl) ?_
    refine Hs.rung0 [3, 8] 300 (fun _ => by kernel_rfl) ?_
    refine Hs.condT (by kernel_rfl) ?_
    refine Hs.run0 300 (fun _ => by kernel_rfl) ?_
    exact Hs.ret (v := .bool false) Tryz.func41 (by kernel_rfl) fun w' H => ⟨by rw [show (b != 0) = true from hb]; rfl, H.only⟩
  refine Hs.condF (by kernel_rfl) ?_
  refine Hs.rung0 [3, 8] 300 (fun _ => by kernel_rfl) ?_
  refine Hs.bool 16 (a != 0) (by kernel_rfl) (fun ha => ?_) (fun ha => ?_)
  · refine Hs.condT (by kernel_rfl) ?_
    
    
    refine Hs.run0 300 (fun _ => by kernel_rfl) ?_
    exact Hs.ret (v := .bool false) Tryz.func41 (by kernel_rfl) fun w' H => ⟨by rw [show (b != 0) = false from hb]; rw [show (a != 0) = true from ha]; rfl, H.only⟩
  refine Hs.condF (by kernel_rfl) ?_
  refine Hs.run0 300 (fun _ => by kernel_rfl) ?_
  refine Hs.callV (v := .bool (shortB ⟨3, a, b, t⟩)) (fun w' H => plShort_any p q ⟨3, a, b, t⟩ w') (by kernel_rfl) ?_
  refine Hs.run0 300 (fun _ => by kernel_rfl) ?_
  exact Hs.ret (v := .bool (shortB ⟨3, a, b, t⟩)) Tryz.func41 (by kernel_rfl) fun w' H => ⟨by rw [show (b != 0) = false from hb]; rw [show (a != 0) = false from ha]; rfl, H.only⟩
theorem right_4 (a b : Int) (t : ByteArray) (p q : Int) (w : World) : Calls Tryz.prog 41 #[opA ⟨4, a, b, t⟩, .int .i64 p, .int .i64 q] w (RetB (restB 4 p q ⟨4, a, b, t⟩) w) := by
  have hR : restB 4 p q ⟨4, a, b, t⟩ = (!(textE t) && (!(b != 0) && (withinB a 1 1024))) := rfl
  rw [hR]
  refine Hs.enter Tryz.func41 [] [] [] [.g [.v (.int .i64 4), .v (.int .i64 a), .v (.int .i64 b), .v (.string t)], .c (.v (.int .i64 p)), .c (.v (.int .i64 q))] (Mem.start0 w) (by kernel_rfl) (by kernel_rfl) ?_
  refine Hs.run1 300 (fun _ => by kernel_rfl) fun b0 => ?_
  refine Hs.callV (v := .bool true) (fun w' H => within_any 4 1 16 w') (by kernel_rfl) ?_
  refine Hs.run0 300 (fun _ => by kernel_rfl) ?_
  refine Hs.condF (by kernel_rfl) ?_
  refine Hs.run0 300 (fun _ => by kernel_rfl) ?_
  refine Hs.any [0] (by kernel_rfl) ?_
  refine Hs.run0 300 (fun _ => by kernel_rfl) ?_
  apply Hs.share1 (β' := [] ++ [b0])
  · intro K
    refine Hs.branch2 0 4 (by kernel_rfl) ?_ ?_
    · refine Hs.callV (v := .agg sortC.toArray) (fun w' H => sorts_any w') (by kernel_rfl) ?_
      refine Hs.run1 300 (fun _ => by kernel_rfl) fun b1 => ?_
      exact K b1
    · refine Hs.run1 300 (fun _ => by kernel_rfl) fun b1 => ?_
      refine Hs.callV (v := .agg sortC.toArray) (fun w' H => sorts_any w') (by kernel_rfl) ?_
      refine Hs.run0 300 (fun _ => by kernel_rfl) ?_
      exact Hs.eqM (K b1) (by kernel_rfl) (by kernel_rfl)
  intro b1
  refine Hs.rung0 [3, 8] 300 (fun _ => by kernel_rfl) ?_
  refine Hs.bool 16 (textE t) (by kernel_rfl) (fun ht => ?_) (fun ht => ?_)
  · refine Hs.condT (by kernel_rfl) ?_
    refine Hs.rung0 [3, 8] 300 (fun _ => by kernel_rfl) ?_
    refine Hs.condT (by kernel_rfl) ?_
    refine Hs.run0 300 (fun _ => by kernel_rfl) ?_
    exact Hs.ret (v := .bool false) Tryz.func41 (by kernel_rfl) fun w' H => ⟨by rw [show (textE t) = true from ht]; rfl, H.only⟩
  refine Hs.condF (by kernel_rfl) ?_
  refine Hs.rung0 [3, 8] 300 (fun _ => by kernel_rfl) ?_
  refine Hs.bool 16 (b != 0) (by kernel_rfl) (fun hb => ?_) (fun hb => ?_)
  · refine Hs.condT (by kernel_rfl) ?_
    refine Hs.rung0 [3, 8] 300 (fun _ => by kernel_rfl) ?_
    refine Hs.condT (by kernel_rfl) ?_
    refine Hs.run0 300 (fun _ => by kernel_rfl) ?_
    exact Hs.ret (v := .bool false) Tryz.func41 (by kernel_rfl) fun w' H => ⟨by rw [show (textE t) = false from ht]; rw [show (b != 0) = true from hb]; rfl, H.only⟩
  refine Hs.condF (by kernel_rfl) ?_
  refine Hs.rung0 [3, 8] 300 (fun _ => by kernel_rfl) ?_
  refine Hs.condF (by kernel_rfl) ?_
  refine Hs.run0 300 (fun _ => by kernel_rfl) ?_
  refine Hs.callV (v := .bool (withinB a 1 1024)) (fun w' H => plCount_any p q ⟨4, a, b, t⟩ w') (by kernel_rfl) ?_
  refine Hs.run0 300 (fun _ => by kernel_rfl) ?_
  exact Hs.ret (v := .bool (withinB a 1 1024)) Tryz.func41 (by kernel_rfl) fun w' H => ⟨by rw [show (textE t) = false from ht]; rw [show (b != 0) = false from hb]; rfl, H.only⟩
theorem right_5 (a b : Int) (t : ByteArray) (p q : Int) (w : World) : Calls Tryz.prog 41 #[opA ⟨5, a, b, t⟩, .int .i64 p, .int .i64 q] w (RetB (restB 5 p q ⟨5, a, b, t⟩) w) := by
  have hR : restB 5 p q ⟨5, a, b, t⟩ = (!(textE t) && (!(b != 0) && (laterB p q a))) := rfl
  rw [hR]
  refine Hs.enter Tryz.func41 [] [] [] [.g [.v (.int .i64 5), .v (.int .i64 a), .v (.int .i64 b), .v (.string t)], .c (.v (.int .i64 p)), .c (.v (.int .i64 q))] (Mem.start0 w) (by kernel_rfl) (by kernel_rfl) ?_
  refine Hs.run1 300 (fun _ => by kernel_rfl) fun b0 => ?_
  refine Hs.callV (v := .bool true) (fun w' H => within_any 5 1 16 w') (by kernel_rfl) ?_
  refine Hs.run0 300 (fun _ => by kernel_rfl) ?_
  refine Hs.condF (by kernel_rfl) ?_
  refine Hs.run0 300 (fun _ => by kernel_rfl) ?_
  refine Hs.any [0] (by kernel_rfl) ?_
  refine Hs.run0 300 (fun _ => by kernel_rfl) ?_
  apply Hs.share1 (β' := [] ++ [b0])
  · intro K
    refine Hs.branch2 0 4 (by kernel_rfl) ?_ ?_
    · refine Hs.callV (v := .agg sortC.toArray) (fun w' H => sorts_any w') (by kernel_rfl) ?_
      refine Hs.run1 300 (fun _ => by kernel_rfl) fun b1 => ?_
      exact K b1
    · refine Hs.run1 300 (fun _ => by kernel_rfl) fun b1 => ?_
      refine Hs.callV (v := .agg sortC.toArray) (fun w' H => sorts_any w') (by kernel_rfl) ?_
      refine Hs.run0 300 (fun _ => by kernel_rfl) ?_
      exact Hs.eqM (K b1) (by kernel_rfl) (by kernel_rfl)
  intro b1
  refine Hs.rung0 [3, 8] 300 (fun _ => by kernel_rfl) ?_
  refine Hs.bool 16 (textE t) (by kernel_rfl) (fun ht => ?_) (fun ht => ?_)
  · refine Hs.condT (by kernel_rfl) ?_
    refine Hs.rung0 [3, 8] 300 (fun _ => by kernel_rfl) ?_
    refine Hs.condT (by kernel_rfl) ?_
    refine Hs.run0 300 (fun _ => by kernel_rfl) ?_
    exact Hs.ret (v := .bool false) Tryz.func41 (by kernel_rfl) fun w' H => ⟨by rw [show (textE t) = true from ht]; rfl, H.only⟩
  refine Hs.condF (by kernel_rfl) ?_
  refine Hs.rung0 [3, 8] 300 (fun _ => by kernel_rfl) ?_
  refine Hs.bool 16 (b != 0) (by kernel_rfl) (fun hb => ?_) (fun hb => ?_)
  · refine Hs.condT (by kernel_rfl) ?_
    refine Hs.rung0 [3, 8] 300 (fun _ => by kernel_rfl) ?_
    refine Hs.condT (by kernel_rfl) ?_
    refine Hs.run0 300 (fun _ => by kernel_rfl) ?_
    exact Hs.ret (v := .bool false) Tryz.func41 (by kernel_rfl) fun w' H => ⟨by rw [show (textE t) = false from ht]; rw [show (b != 0) = true from hb]; rfl, H.only⟩
  refine Hs.condF (by kernel_rfl) ?_
  refine Hs.rung0 [3, 8] 300 (fun _ => by kernel_rfl) ?_
  refine Hs.condF (by kernel_rfl) ?_
  refine Hs.run0 300 (fun _ => by kernel_rfl) ?_
  refine Hs.callV (v := .bool (laterB p q a)) (fun w' H => plLater_any p q ⟨5, a, b, t⟩ w') (by kernel_rfl) ?_
  refine Hs.run0 300 (fun _ => by kernel_rfl) ?_
  exact Hs.ret (v := .bool (laterB p q a)) Tryz.func41 (by kernel_rfl) fun w' H => ⟨by rw [show (textE t) = false from ht]; rw [show (b != 0) = false from hb]; rfl, H.only⟩
theorem right_6 (a b : Int) (t : ByteArray) (p q : Int) (w : World) : Calls Tryz.prog 41 #[opA ⟨6, a, b, t⟩, .int .i64 p, .int .i64 q] w (RetB (restB 6 p q ⟨6, a, b, t⟩) w) := by
  have hR : restB 6 p q ⟨6, a, b, t⟩ = (!(textE t) && (!(b != 0) && (laterB p q a))) := rfl
  rw [hR]
  refine Hs.enter Tryz.func41 [] [] [] [.g [.v (.int .i64 6), .v (.int .i64 a), .v (.int .i64 b), .v (.string t)], .c (.v (.int .i64 p)), .c (.v (.int .i64 q))] (Mem.start0 w) (by kernel_rfl) (by kernel_rfl) ?_
  refine Hs.run1 300 (fun _ => by kernel_rfl) fun b0 => ?_
  refine Hs.callV (v := .bool true) (fun w' H => within_any 6 1 16 w') (by kernel_rfl) ?_
  refine Hs.run0 300 (fun _ => by kernel_rfl) ?_
  refine Hs.condF (by kernel_rfl) ?_
  refine Hs.run0 300 (fun _ => by kernel_rfl) ?_
  refine Hs.any [0] (by kernel_rfl) ?_
  refine Hs.run0 300 (fun _ => by kernel_rfl) ?_
  apply Hs.share1 (β' := [] ++ [b0])
  · intro K
    refine Hs.branch2 0 4 (by kernel_rfl) ?_ ?_
    · refine Hs.callV (v := .agg sortC.toArray) (fun w' H => sorts_any w') (by kernel_rfl) ?_
      refine Hs.run1 300 (fun _ => by kernel_rfl) fun b1 => ?_
      exact K b1
    · refine Hs.run1 300 (fun _ => by kernel_rfl) fun b1 => ?_
      refine Hs.callV (v := .agg sortC.toArray) (fun w' H => sorts_any w') (by kernel_rfl) ?_
      refine Hs.run0 300 (fun _ => by kernel_rfl) ?_
      exact Hs.eqM (K b1) (by kernel_rfl) (by kernel_rfl)
  intro b1
  refine Hs.rung0 [3, 8] 300 (fun _ => by kernel_rfl) ?_
  refine Hs.bool 16 (textE t) (by kernel_rfl) (fun ht => ?_) (fun ht => ?_)
  · refine Hs.condT (by kernel_rfl) ?_
    refine Hs.rung0 [3, 8] 300 (fun _ => by kernel_rfl) ?_
    refine Hs.condT (by kernel_rfl) ?_
    refine Hs.run0 300 (fun _ => by kernel_rfl) ?_
    exact Hs.ret (v := .bool false) Tryz.func41 (by kernel_rfl) fun w' H => ⟨by rw [show (textE t) = true from ht]; rfl, H.only⟩
  refine Hs.condF (by kernel_rfl) ?_
  refine Hs.rung0 [3, 8] 300 (fun _ => by kernel_rfl) ?_
  refine Hs.bool 16 (b != 0) (by kernel_rfl) (fun hb => ?_) (fun hb => ?_)
  · refine Hs.condT (by kernel_rfl) ?_
    refine Hs.rung0 [3, 8] 300 (fun _ => by kernel_rfl) ?_
    refine Hs.condT (by kernel_rfl) ?_
    refine Hs.run0 300 (fun _ => by kernel_rfl) ?_
    exact Hs.ret (v := .bool false) Tryz.func41 (by kernel_rfl) fun w' H => ⟨by rw [show (textE t) = false from ht]; rw [show (b != 0) = true from hb]; rfl, H.only⟩
  refine Hs.condF (by kernel_rfl) ?_
  refine Hs.rung0 [3, 8] 300 (fun _ => by kernel_rfl) ?_
  refine Hs.condF (by kernel_rfl) ?_
  refine Hs.run0 300 (fun _ => by kernel_rfl) ?_
  refine Hs.callV (v := .bool (laterB p q a)) (fun w' H => plLater_any p q ⟨6, a, b, t⟩ w') (by kernel_rfl) ?_
  refine Hs.run0 300 (fun _ => by kernel_rfl) ?_
  exact Hs.ret (v := .bool (laterB p q a)) Tryz.func41 (by kernel_rfl) fun w' H => ⟨by rw [show (textE t) = false from ht]; rw [show (b != 0) = false from hb]; rfl, H.only⟩
theorem right_7 (a b : Int) (t : ByteArray) (p q : Int) (w : World) : Calls Tryz.prog 41 #[opA ⟨7, a, b, t⟩, .int .i64 p, .int .i64 q] w (RetB (restB 7 p q ⟨7, a, b, t⟩) w) := by
  have hR : restB 7 p q ⟨7, a, b, t⟩ = (!(textE t) && (!(b != 0) && (withinB a 0 3))) := rfl
  rw [hR]
  refine Hs.enter Tryz.func41 [] [] [] [.g [.v (.int .i64 7), .v (.int .i64 a), .v (.int .i64 b), .v (.string t)], .c (.v (.int .i64 p)), .c (.v (.int .i64 q))] (Mem.start0 w) (by kernel_rfl) (by kernel_rfl) ?_
  refine Hs.run1 300 (fun _ => by kernel_rfl) fun b0 => ?_
  refine Hs.callV (v := .bool true) (fun w' H => within_any 7 1 16 w') (by kernel_rfl) ?_
  refine Hs.run0 300 (fun _ => by kernel_rfl) ?_
  refine Hs.condF (by kernel_rfl) ?_
  refine Hs.run0 300 (fun _ => by kernel_rfl) ?_
  refine Hs.any [0] (by kernel_rfl) ?_
  refine Hs.run0 300 (fun _ => by kernel_rfl) ?_
  apply Hs.share1 (β' := [] ++ [b0])
  · intro K
    refine Hs.branch2 0 4 (by kernel_rfl) ?_ ?_
    · refine Hs.callV (v := .agg sortC.toArray) (fun w' H => sorts_any w') (by kernel_rfl) ?_
      refine Hs.run1 300 (fun _ => by kernel_rfl) fun b1 => ?_
      exact K b1
    · refine Hs.run1 300 (fun _ => by kernel_rfl) fun b1 => ?_
      refine Hs.callV (v := .agg sortC.toArray) (fun w' H => sorts_any w') (by kernel_rfl) ?_
      refine Hs.run0 300 (fun _ => by kernel_rfl) ?_
      exact Hs.eqM (K b1) (by kernel_rfl) (by kernel_rfl)
  intro b1
  refine Hs.rung0 [3, 8] 300 (fun _ => by kernel_rfl) ?_
  refine Hs.bool 16 (textE t) (by kernel_rfl) (fun ht => ?_) (fun ht => ?_)
  · refine Hs.condT (by kernel_rfl) ?_
    refine Hs.rung0 [3, 8] 300 (fun _ => by kernel_rfl) ?_
    refine Hs.condT (by kernel_rfl) ?_
    refine Hs.run0 300 (fun _ => by kernel_rfl) ?_
    exact Hs.ret (v := .bool false) Tryz.func41 (by kernel_rfl) fun w' H => ⟨by rw [show (textE t) = true from ht]; rfl, H.only⟩
  refine Hs.condF (by kernel_rfl) ?_
  refine Hs.rung0 [3, 8] 300 (fun _ => by kernel_rfl) ?_
  refine Hs.bool 16 (b != 0) (by kernel_rfl) (fun hb => ?_) (fun hb => ?_)
  · refine Hs.condT (by kernel_rfl) ?_
    refine Hs.rung0 [3, 8] 300 (fun _ => by kernel_rfl) ?_
    refine Hs.condT (by kernel_rfl) ?_
    refine Hs.run0 300 (fun _ => by kernel_rfl) ?_
    exact Hs.ret (v := .bool false) Tryz.func41 (by kernel_rfl) fun w' H => ⟨by rw [show (textE t) = false from ht]; rw [show (b != 0) = true from hb]; rfl, H.only⟩
  refine Hs.condF (by kernel_rfl) ?_
  refine Hs.rung0 [3, 8] 300 (fun _ => by kernel_rfl) ?_
  refine Hs.condF (by kernel_rfl) ?_
  refine Hs.run0 300 (fun _ => by kernel_rfl) ?_
  refine Hs.callV (v := .bool (withinB a 0 3)) (fun w' H => plFlags_any p q ⟨7, a, b, t⟩ w') (by kernel_rfl) ?_
  refine Hs.run0 300 (fun _ => by kernel_rfl) ?_
  exact Hs.ret (v := .bool (withinB a 0 3)) Tryz.func41 (by kernel_rfl) fun w' H => ⟨by rw [show (textE t) = false from ht]; rw [show (b != 0) = false from hb]; rfl, H.only⟩
theorem right_8 (a b : Int) (t : ByteArray) (p q : Int) (w : World) : Calls Tryz.prog 41 #[opA ⟨8, a, b, t⟩, .int .i64 p, .int .i64 q] w (RetB (restB 8 p q ⟨8, a, b, t⟩) w) := by
  have hR : restB 8 p q ⟨8, a, b, t⟩ = (!(textE t) && (withinB a 0 4 && isS b)) := rfl
  rw [hR]
  refine Hs.enter Tryz.func41 [] [] [] [.g [.v (.int .i64 8), .v (.int .i64 a), .v (.int .i64 b), .v (.string t)], .c (.v (.int .i64 p)), .c (.v (.int .i64 q))] (Mem.start0 w) (by kernel_rfl) (by kernel_rfl) ?_
  refine Hs.run1 300 (fun _ => by kernel_rfl) fun b0 => ?_
  refine Hs.callV (v := .bool true) (fun w' H => within_any 8 1 16 w') (by kernel_rfl) ?_
  refine Hs.run0 300 (fun _ => by kernel_rfl) ?_
  refine Hs.condF (by kernel_rfl) ?_
  refine Hs.run0 300 (fun _ => by kernel_rfl) ?_
  refine Hs.any [0] (by kernel_rfl) ?_
  refine Hs.run0 300 (fun _ => by kernel_rfl) ?_
  apply Hs.share1 (β' := [] ++ [b0])
  · intro K
    refine Hs.branch2 0 4 (by kernel_rfl) ?_ ?_
    · refine Hs.callV (v := .agg sortC.toArray) (fun w' H => sorts_any w') (by kernel_rfl) ?_
      refine Hs.run1 300 (fun _ => by kernel_rfl) fun b1 => ?_
      exact K b1
    · refine Hs.run1 300 (fun _ => by kernel_rfl) fun b1 => ?_
      refine Hs.callV (v := .agg sortC.toArray) (fun w' H => sorts_any w') (by kernel_rfl) ?_
      refine Hs.run0 300 (fun _ => by kernel_rfl) ?_
      exact Hs.eqM (K b1) (by kernel_rfl) (by kernel_rfl)
  intro b1
  refine Hs.rung0 [3, 8] 300 (fun _ => by kernel_rfl) ?_
  refine Hs.bool 16 (textE t) (by kernel_rfl) (fun ht => ?_) (fun ht => ?_)
  · refine Hs.condT (by kernel_rfl) ?_
    refine Hs.rung0 [3, 8] 300 (fun _ => by kernel_rfl) ?_
    refine Hs.condT (by kernel_rfl) ?_
    refine Hs.run0 300 (fun _ => by kernel_rfl) ?_
    exact Hs.ret (v := .bool false) Tryz.func41 (by kernel_rfl) fun w' H => ⟨by rw [show (textE t) = true from ht]; rfl, H.only⟩
  refine Hs.condF (by kernel_rfl) ?_
  refine Hs.rung0 [3, 8] 300 (fun _ => by kernel_rfl) ?_
  refine Hs.condF (by kernel_rfl) ?_
  refine Hs.rung0 [3, 8] 300 (fun _ => by kernel_rfl) ?_
  refine Hs.condF (by kernel_rfl) ?_
  refine Hs.run0 300 (fun _ => by kernel_rfl) ?_
  refine Hs.callV (v := .bool (withinB a 0 4 && isS b)) (fun w' H => plTarget_any p q ⟨8, a, b, t⟩ w') (by kernel_rfl) ?_
  refine Hs.run0 300 (fun _ => by kernel_rfl) ?_
  exact Hs.ret (v := .bool (withinB a 0 4 && isS b)) Tryz.func41 (by kernel_rfl) fun w' H => ⟨by rw [show (textE t) = false from ht]; rfl, H.only⟩
theorem right_9 (a b : Int) (t : ByteArray) (p q : Int) (w : World) : Calls Tryz.prog 41 #[opA ⟨9, a, b, t⟩, .int .i64 p, .int .i64 q] w (RetB (restB 9 p q ⟨9, a, b, t⟩) w) := by
  have hR : restB 9 p q ⟨9, a, b, t⟩ = (!(textE t) && (!(b != 0) && (withinB a 0 2))) := rfl
  rw [hR]
  refine Hs.enter Tryz.func41 [] [] [] [.g [.v (.int .i64 9), .v (.int .i64 a), .v (.int .i64 b), .v (.string t)], .c (.v (.int .i64 p)), .c (.v (.int .i64 q))] (Mem.start0 w) (by kernel_rfl) (by kernel_rfl) ?_
  refine Hs.run1 300 (fun _ => by kernel_rfl) fun b0 => ?_
  refine Hs.callV (v := .bool true) (fun w' H => within_any 9 1 16 w') (by kernel_rfl) ?_
  refine Hs.run0 300 (fun _ => by kernel_rfl) ?_
  refine Hs.condF (by kernel_rfl) ?_
  refine Hs.run0 300 (fun _ => by kernel_rfl) ?_
  refine Hs.any [0] (by kernel_rfl) ?_
  refine Hs.run0 300 (fun _ => by kernel_rfl) ?_
  apply Hs.share1 (β' := [] ++ [b0])
  · intro K
    refine Hs.branch2 0 4 (by kernel_rfl) ?_ ?_
    · refine Hs.callV (v := .agg sortC.toArray) (fun w' H => sorts_any w') (by kernel_rfl) ?_
      refine Hs.run1 300 (fun _ => by kernel_rfl) fun b1 => ?_
      exact K b1
    · refine Hs.run1 300 (fun _ => by kernel_rfl) fun b1 => ?_
      refine Hs.callV (v := .agg sortC.toArray) (fun w' H => sorts_any w') (by kernel_rfl) ?_
      refine Hs.run0 300 (fun _ => by kernel_rfl) ?_
      exact Hs.eqM (K b1) (by kernel_rfl) (by kernel_rfl)
  intro b1
  refine Hs.rung0 [3, 8] 300 (fun _ => by kernel_rfl) ?_
  refine Hs.bool 16 (textE t) (by kernel_rfl) (fun ht => ?_) (fun ht => ?_)
  · refine Hs.condT (by kernel_rfl) ?_
    refine Hs.rung0 [3, 8] 300 (fun _ => by kernel_rfl) ?_
    refine Hs.condT (by kernel_rfl) ?_
    refine Hs.run0 300 (fun _ => by kernel_rfl) ?_
    exact Hs.ret (v := .bool false) Tryz.func41 (by kernel_rfl) fun w' H => ⟨by rw [show (textE t) = true from ht]; rfl, H.only⟩
  refine Hs.condF (by kernel_rfl) ?_
  refine Hs.rung0 [3, 8] 300 (fun _ => by kernel_rfl) ?_
  refine Hs.bool 16 (b != 0) (by kernel_rfl) (fun hb => ?_) (fun hb => ?_)
  · refine Hs.condT (by kernel_rfl) ?_
    refine Hs.rung0 [3, 8] 300 (fun _ => by kernel_rfl) ?_
    refine Hs.condT (by kernel_rfl) ?_
    refine Hs.run0 300 (fun _ => by kernel_rfl) ?_
    exact Hs.ret (v := .bool false) Tryz.func41 (by kernel_rfl) fun w' H => ⟨by rw [show (textE t) = false from ht]; rw [show (b != 0) = true from hb]; rfl, H.only⟩
  refine Hs.condF (by kernel_rfl) ?_
  refine Hs.rung0 [3, 8] 300 (fun _ => by kernel_rfl) ?_
  refine Hs.condF (by kernel_rfl) ?_
  refine Hs.run0 300 (fun _ => by kernel_rfl) ?_
  refine Hs.callV (v := .bool (withinB a 0 2)) (fun w' H => plWhose_any p q ⟨9, a, b, t⟩ w') (by kernel_rfl) ?_
  refine Hs.run0 300 (fun _ => by kernel_rfl) ?_
  exact Hs.ret (v := .bool (withinB a 0 2)) Tryz.func41 (by kernel_rfl) fun w' H => ⟨by rw [show (textE t) = false from ht]; rw [show (b != 0) = false from hb]; rfl, H.only⟩
theorem right_10 (a b : Int) (t : ByteArray) (p q : Int) (w : World) : Calls Tryz.prog 41 #[opA ⟨10, a, b, t⟩, .int .i64 p, .int .i64 q] w (RetB (restB 10 p q ⟨10, a, b, t⟩) w) := by
  have hR : restB 10 p q ⟨10, a, b, t⟩ = (!(textE t) && (!(b != 0) && (!(a != 0) && (true)))) := rfl
  rw [hR]
  refine Hs.enter Tryz.func41 [] [] [] [.g [.v (.int .i64 10), .v (.int .i64 a), .v (.int .i64 b), .v (.string t)], .c (.v (.int .i64 p)), .c (.v (.int .i64 q))] (Mem.start0 w) (by kernel_rfl) (by kernel_rfl) ?_
  refine Hs.run1 300 (fun _ => by kernel_rfl) fun b0 => ?_
  refine Hs.callV (v := .bool true) (fun w' H => within_any 10 1 16 w') (by kernel_rfl) ?_
  refine Hs.run0 300 (fun _ => by kernel_rfl) ?_
  refine Hs.condF (by kernel_rfl) ?_
  refine Hs.run0 300 (fun _ => by kernel_rfl) ?_
  refine Hs.any [0] (by kernel_rfl) ?_
  refine Hs.run0 300 (fun _ => by kernel_rfl) ?_
  apply Hs.share1 (β' := [] ++ [b0])
  · intro K
    refine Hs.branch2 0 4 (by kernel_rfl) ?_ ?_
    · refine Hs.callV (v := .agg sortC.toArray) (fun w' H => sorts_any w') (by kernel_rfl) ?_
      refine Hs.run1 300 (fun _ => by kernel_rfl) fun b1 => ?_
      exact K b1
    · refine Hs.run1 300 (fun _ => by kernel_rfl) fun b1 => ?_
      refine Hs.callV (v := .agg sortC.toArray) (fun w' H => sorts_any w') (by kernel_rfl) ?_
      refine Hs.run0 300 (fun _ => by kernel_rfl) ?_
      exact Hs.eqM (K b1) (by kernel_rfl) (by kernel_rfl)
  intro b1
  refine Hs.rung0 [3, 8] 300 (fun _ => by kernel_rfl) ?_
  refine Hs.bool 16 (textE t) (by kernel_rfl) (fun ht => ?_) (fun ht => ?_)
  · refine Hs.condT (by kernel_rfl) ?_
    refine Hs.rung0 [3, 8] 300 (fun _ => by kernel_rfl) ?_
    refine Hs.condT (by kernel_rfl) ?_
    refine Hs.run0 300 (fun _ => by kernel_rfl) ?_
    exact Hs.ret (v := .bool false) Tryz.func41 (by kernel_rfl) fun w' H => ⟨by rw [show (textE t) = true from ht]; rfl, H.only⟩
  refine Hs.condF (by kernel_rfl) ?_
  refine Hs.rung0 [3, 8] 300 (fun _ => by kernel_rfl) ?_
  refine Hs.bool 16 (b != 0) (by kernel_rfl) (fun hb => ?_) (fun hb => ?_)
  · refine Hs.condT (by kernel_rfl) ?_
    refine Hs.rung0 [3, 8] 300 (fun _ => by kernel_rfl) ?_
    refine Hs.condT (by kernel_rfl) ?_
    refine Hs.run0 300 (fun _ => by kernel_rfl) ?_
    exact Hs.ret (v := .bool false) Tryz.func41 (by kernel_rfl) fun w' H => ⟨by rw [show (textE t) = false from ht]; rw [show (b != 0) = true from hb]; rfl, H.only⟩
  refine Hs.condF (by kernel_rfl) ?_
  refine Hs.rung0 [3, 8] 300 (fun _ => by kernel_rfl) ?_
  refine Hs.bool 16 (a != 0) (by kernel_rfl) (fun ha => ?_) (fun ha => ?_)
  · refine Hs.condT (by kernel_rfl) ?_
    
    
    refine Hs.run0 300 (fun _ => by kernel_rfl) ?_
    exact Hs.ret (v := .bool false) Tryz.func41 (by kernel_rfl) fun w' H => ⟨by rw [show (textE t) = false from ht]; rw [show (b != 0) = false from hb]; rw [show (a != 0) = true from ha]; rfl, H.only⟩
  refine Hs.condF (by kernel_rfl) ?_
  refine Hs.run0 300 (fun _ => by kernel_rfl) ?_
  refine Hs.callV (v := .bool (true)) (fun w' H => plAny_any p q ⟨10, a, b, t⟩ w') (by kernel_rfl) ?_
  refine Hs.run0 300 (fun _ => by kernel_rfl) ?_
  exact Hs.ret (v := .bool (true)) Tryz.func41 (by kernel_rfl) fun w' H => ⟨by rw [show (textE t) = false from ht]; rw [show (b != 0) = false from hb]; rw [show (a != 0) = false from ha]; rfl, H.only⟩
theorem right_11 (a b : Int) (t : ByteArray) (p q : Int) (w : World) : Calls Tryz.prog 41 #[opA ⟨11, a, b, t⟩, .int .i64 p, .int .i64 q] w (RetB (restB 11 p q ⟨11, a, b, t⟩) w) := by
  have hR : restB 11 p q ⟨11, a, b, t⟩ = (!(textE t) && (!(b != 0) && (withinB a 0 1))) := rfl
  rw [hR]
  refine Hs.enter Tryz.func41 [] [] [] [.g [.v (.int .i64 11), .v (.int .i64 a), .v (.int .i64 b), .v (.string t)], .c (.v (.int .i64 p)), .c (.v (.int .i64 q))] (Mem.start0 w) (by kernel_rfl) (by kernel_rfl) ?_
  refine Hs.run1 300 (fun _ => by kernel_rfl) fun b0 => ?_
  refine Hs.callV (v := .bool true) (fun w' H => within_any 11 1 16 w') (by kernel_rfl) ?_
  refine Hs.run0 300 (fun _ => by kernel_rfl) ?_
  refine Hs.condF (by kernel_rfl) ?_
  refine Hs.run0 300 (fun _ => by kernel_rfl) ?_
  refine Hs.any [0] (by kernel_rfl) ?_
  refine Hs.run0 300 (fun _ => by kernel_rfl) ?_
  apply Hs.share1 (β' := [] ++ [b0])
  · intro K
    refine Hs.branch2 0 4 (by kernel_rfl) ?_ ?_
    · refine Hs.callV (v := .agg sortC.toArray) (fun w' H => sorts_any w') (by kernel_rfl) ?_
      refine Hs.run1 300 (fun _ => by kernel_rfl) fun b1 => ?_
      exact K b1
    · refine Hs.run1 300 (fun _ => by kernel_rfl) fun b1 => ?_
      refine Hs.callV (v := .agg sortC.toArray) (fun w' H => sorts_any w') (by kernel_rfl) ?_
      refine Hs.run0 300 (fun _ => by kernel_rfl) ?_
      exact Hs.eqM (K b1) (by kernel_rfl) (by kernel_rfl)
  intro b1
  refine Hs.rung0 [3, 8] 300 (fun _ => by kernel_rfl) ?_
  refine Hs.bool 16 (textE t) (by kernel_rfl) (fun ht => ?_) (fun ht => ?_)
  · refine Hs.condT (by kernel_rfl) ?_
    refine Hs.rung0 [3, 8] 300 (fun _ => by kernel_rfl) ?_
    refine Hs.condT (by kernel_rfl) ?_
    refine Hs.run0 300 (fun _ => by kernel_rfl) ?_
    exact Hs.ret (v := .bool false) Tryz.func41 (by kernel_rfl) fun w' H => ⟨by rw [show (textE t) = true from ht]; rfl, H.only⟩
  refine Hs.condF (by kernel_rfl) ?_
  refine Hs.rung0 [3, 8] 300 (fun _ => by kernel_rfl) ?_
  refine Hs.bool 16 (b != 0) (by kernel_rfl) (fun hb => ?_) (fun hb => ?_)
  · refine Hs.condT (by kernel_rfl) ?_
    refine Hs.rung0 [3, 8] 300 (fun _ => by kernel_rfl) ?_
    refine Hs.condT (by kernel_rfl) ?_
    refine Hs.run0 300 (fun _ => by kernel_rfl) ?_
    exact Hs.ret (v := .bool false) Tryz.func41 (by kernel_rfl) fun w' H => ⟨by rw [show (textE t) = false from ht]; rw [show (b != 0) = true from hb]; rfl, H.only⟩
  refine Hs.condF (by kernel_rfl) ?_
  refine Hs.rung0 [3, 8] 300 (fun _ => by kernel_rfl) ?_
  refine Hs.condF (by kernel_rfl) ?_
  refine Hs.run0 300 (fun _ => by kernel_rfl) ?_
  refine Hs.callV (v := .bool (withinB a 0 1)) (fun w' H => plEither_any p q ⟨11, a, b, t⟩ w') (by kernel_rfl) ?_
  refine Hs.run0 300 (fun _ => by kernel_rfl) ?_
  exact Hs.ret (v := .bool (withinB a 0 1)) Tryz.func41 (by kernel_rfl) fun w' H => ⟨by rw [show (textE t) = false from ht]; rw [show (b != 0) = false from hb]; rfl, H.only⟩
theorem right_12 (a b : Int) (t : ByteArray) (p q : Int) (w : World) : Calls Tryz.prog 41 #[opA ⟨12, a, b, t⟩, .int .i64 p, .int .i64 q] w (RetB (restB 12 p q ⟨12, a, b, t⟩) w) := by
  have hR : restB 12 p q ⟨12, a, b, t⟩ = (!(textE t) && (actOk a b)) := rfl
  rw [hR]
  refine Hs.enter Tryz.func41 [] [] [] [.g [.v (.int .i64 12), .v (.int .i64 a), .v (.int .i64 b), .v (.string t)], .c (.v (.int .i64 p)), .c (.v (.int .i64 q))] (Mem.start0 w) (by kernel_rfl) (by kernel_rfl) ?_
  refine Hs.run1 300 (fun _ => by kernel_rfl) fun b0 => ?_
  refine Hs.callV (v := .bool true) (fun w' H => within_any 12 1 16 w') (by kernel_rfl) ?_
  refine Hs.run0 300 (fun _ => by kernel_rfl) ?_
  refine Hs.condF (by kernel_rfl) ?_
  refine Hs.run0 300 (fun _ => by kernel_rfl) ?_
  refine Hs.any [0] (by kernel_rfl) ?_
  refine Hs.run0 300 (fun _ => by kernel_rfl) ?_
  apply Hs.share1 (β' := [] ++ [b0])
  · intro K
    refine Hs.branch2 0 4 (by kernel_rfl) ?_ ?_
    · refine Hs.callV (v := .agg sortC.toArray) (fun w' H => sorts_any w') (by kernel_rfl) ?_
      refine Hs.run1 300 (fun _ => by kernel_rfl) fun b1 => ?_
      exact K b1
    · refine Hs.run1 300 (fun _ => by kernel_rfl) fun b1 => ?_
      refine Hs.callV (v := .agg sortC.toArray) (fun w' H => sorts_any w') (by kernel_rfl) ?_
      refine Hs.run0 300 (fun _ => by kernel_rfl) ?_
      exact Hs.eqM (K b1) (by kernel_rfl) (by kernel_rfl)
  intro b1
  refine Hs.rung0 [3, 8] 300 (fun _ => by kernel_rfl) ?_
  refine Hs.bool 16 (textE t) (by kernel_rfl) (fun ht => ?_) (fun ht => ?_)
  · refine Hs.condT (by kernel_rfl) ?_
    refine Hs.rung0 [3, 8] 300 (fun _ => by kernel_rfl) ?_
    refine Hs.condT (by kernel_rfl) ?_
    refine Hs.run0 300 (fun _ => by kernel_rfl) ?_
    exact Hs.ret (v := .bool false) Tryz.func41 (by kernel_rfl) fun w' H => ⟨by rw [show (textE t) = true from ht]; rfl, H.only⟩
  refine Hs.condF (by kernel_rfl) ?_
  refine Hs.rung0 [3, 8] 300 (fun _ => by kernel_rfl) ?_
  refine Hs.condF (by kernel_rfl) ?_
  refine Hs.rung0 [3, 8] 300 (fun _ => by kernel_rfl) ?_
  refine Hs.condF (by kernel_rfl) ?_
  refine Hs.run0 300 (fun _ => by kernel_rfl) ?_
  refine Hs.callV (v := .bool (actOk a b)) (fun w' H => plAct_any p q ⟨12, a, b, t⟩ w') (by kernel_rfl) ?_
  refine Hs.run0 300 (fun _ => by kernel_rfl) ?_
  exact Hs.ret (v := .bool (actOk a b)) Tryz.func41 (by kernel_rfl) fun w' H => ⟨by rw [show (textE t) = false from ht]; rfl, H.only⟩
theorem right_13 (a b : Int) (t : ByteArray) (p q : Int) (w : World) : Calls Tryz.prog 41 #[opA ⟨13, a, b, t⟩, .int .i64 p, .int .i64 q] w (RetB (restB 13 p q ⟨13, a, b, t⟩) w) := by
  have hR : restB 13 p q ⟨13, a, b, t⟩ = (!(textE t) && (isS a && withinB b 0 1)) := rfl
  rw [hR]
  refine Hs.enter Tryz.func41 [] [] [] [.g [.v (.int .i64 13), .v (.int .i64 a), .v (.int .i64 b), .v (.string t)], .c (.v (.int .i64 p)), .c (.v (.int .i64 q))] (Mem.start0 w) (by kernel_rfl) (by kernel_rfl) ?_
  refine Hs.run1 300 (fun _ => by kernel_rfl) fun b0 => ?_
  refine Hs.callV (v := .bool true) (fun w' H => within_any 13 1 16 w') (by kernel_rfl) ?_
  refine Hs.run0 300 (fun _ => by kernel_rfl) ?_
  refine Hs.condF (by kernel_rfl) ?_
  refine Hs.run0 300 (fun _ => by kernel_rfl) ?_
  refine Hs.any [0] (by kernel_rfl) ?_
  refine Hs.run0 300 (fun _ => by kernel_rfl) ?_
  apply Hs.share1 (β' := [] ++ [b0])
  · intro K
    refine Hs.branch2 0 4 (by kernel_rfl) ?_ ?_
    · refine Hs.callV (v := .agg sortC.toArray) (fun w' H => sorts_any w') (by kernel_rfl) ?_
      refine Hs.run1 300 (fun _ => by kernel_rfl) fun b1 => ?_
      exact K b1
    · refine Hs.run1 300 (fun _ => by kernel_rfl) fun b1 => ?_
      refine Hs.callV (v := .agg sortC.toArray) (fun w' H => sorts_any w') (by kernel_rfl) ?_
      refine Hs.run0 300 (fun _ => by kernel_rfl) ?_
      exact Hs.eqM (K b1) (by kernel_rfl) (by kernel_rfl)
  intro b1
  refine Hs.rung0 [3, 8] 300 (fun _ => by kernel_rfl) ?_
  refine Hs.bool 16 (textE t) (by kernel_rfl) (fun ht => ?_) (fun ht => ?_)
  · refine Hs.condT (by kernel_rfl) ?_
    refine Hs.rung0 [3, 8] 300 (fun _ => by kernel_rfl) ?_
    refine Hs.condT (by kernel_rfl) ?_
    refine Hs.run0 300 (fun _ => by kernel_rfl) ?_
    exact Hs.ret (v := .bool false) Tryz.func41 (by kernel_rfl) fun w' H => ⟨by rw [show (textE t) = true from ht]; rfl, H.only⟩
  refine Hs.condF (by kernel_rfl) ?_
  refine Hs.rung0 [3, 8] 300 (fun _ => by kernel_rfl) ?_
  refine Hs.condF (by kernel_rfl) ?_
  refine Hs.rung0 [3, 8] 300 (fun _ => by kernel_rfl) ?_
  refine Hs.condF (by kernel_rfl) ?_
  refine Hs.run0 300 (fun _ => by kernel_rfl) ?_
  refine Hs.callV (v := .bool (isS a && withinB b 0 1)) (fun w' H => plMask_any p q ⟨13, a, b, t⟩ w') (by kernel_rfl) ?_
  refine Hs.run0 300 (fun _ => by kernel_rfl) ?_
  exact Hs.ret (v := .bool (isS a && withinB b 0 1)) Tryz.func41 (by kernel_rfl) fun w' H => ⟨by rw [show (textE t) = false from ht]; rfl, H.only⟩
theorem right_14 (a b : Int) (t : ByteArray) (p q : Int) (w : World) : Calls Tryz.prog 41 #[opA ⟨14, a, b, t⟩, .int .i64 p, .int .i64 q] w (RetB (restB 14 p q ⟨14, a, b, t⟩) w) := by
  have hR : restB 14 p q ⟨14, a, b, t⟩ = (!(textE t) && (!(b != 0) && (withinB a 0 1000))) := rfl
  rw [hR]
  refine Hs.enter Tryz.func41 [] [] [] [.g [.v (.int .i64 14), .v (.int .i64 a), .v (.int .i64 b), .v (.string t)], .c (.v (.int .i64 p)), .c (.v (.int .i64 q))] (Mem.start0 w) (by kernel_rfl) (by kernel_rfl) ?_
  refine Hs.run1 300 (fun _ => by kernel_rfl) fun b0 => ?_
  refine Hs.callV (v := .bool true) (fun w' H => within_any 14 1 16 w') (by kernel_rfl) ?_
  refine Hs.run0 300 (fun _ => by kernel_rfl) ?_
  refine Hs.condF (by kernel_rfl) ?_
  refine Hs.run0 300 (fun _ => by kernel_rfl) ?_
  refine Hs.any [0] (by kernel_rfl) ?_
  refine Hs.run0 300 (fun _ => by kernel_rfl) ?_
  apply Hs.share1 (β' := [] ++ [b0])
  · intro K
    refine Hs.branch2 0 4 (by kernel_rfl) ?_ ?_
    · refine Hs.callV (v := .agg sortC.toArray) (fun w' H => sorts_any w') (by kernel_rfl) ?_
      refine Hs.run1 300 (fun _ => by kernel_rfl) fun b1 => ?_
      exact K b1
    · refine Hs.run1 300 (fun _ => by kernel_rfl) fun b1 => ?_
      refine Hs.callV (v := .agg sortC.toArray) (fun w' H => sorts_any w') (by kernel_rfl) ?_
      refine Hs.run0 300 (fun _ => by kernel_rfl) ?_
      exact Hs.eqM (K b1) (by kernel_rfl) (by kernel_rfl)
  intro b1
  refine Hs.rung0 [3, 8] 300 (fun _ => by kernel_rfl) ?_
  refine Hs.bool 16 (textE t) (by kernel_rfl) (fun ht => ?_) (fun ht => ?_)
  · refine Hs.condT (by kernel_rfl) ?_
    refine Hs.rung0 [3, 8] 300 (fun _ => by kernel_rfl) ?_
    refine Hs.condT (by kernel_rfl) ?_
    refine Hs.run0 300 (fun _ => by kernel_rfl) ?_
    exact Hs.ret (v := .bool false) Tryz.func41 (by kernel_rfl) fun w' H => ⟨by rw [show (textE t) = true from ht]; rfl, H.only⟩
  refine Hs.condF (by kernel_rfl) ?_
  refine Hs.rung0 [3, 8] 300 (fun _ => by kernel_rfl) ?_
  refine Hs.bool 16 (b != 0) (by kernel_rfl) (fun hb => ?_) (fun hb => ?_)
  · refine Hs.condT (by kernel_rfl) ?_
    refine Hs.rung0 [3, 8] 300 (fun _ => by kernel_rfl) ?_
    refine Hs.condT (by kernel_rfl) ?_
    refine Hs.run0 300 (fun _ => by kernel_rfl) ?_
    exact Hs.ret (v := .bool false) Tryz.func41 (by kernel_rfl) fun w' H => ⟨by rw [show (textE t) = false from ht]; rw [show (b != 0) = true from hb]; rfl, H.only⟩
  refine Hs.condF (by kernel_rfl) ?_
  refine Hs.rung0 [3, 8] 300 (fun _ => by kernel_rfl) ?_
  refine Hs.condF (by kernel_rfl) ?_
  refine Hs.run0 300 (fun _ => by kernel_rfl) ?_
  refine Hs.callV (v := .bool (withinB a 0 1000)) (fun w' H => plTime_any p q ⟨14, a, b, t⟩ w') (by kernel_rfl) ?_
  refine Hs.run0 300 (fun _ => by kernel_rfl) ?_
  exact Hs.ret (v := .bool (withinB a 0 1000)) Tryz.func41 (by kernel_rfl) fun w' H => ⟨by rw [show (textE t) = false from ht]; rw [show (b != 0) = false from hb]; rfl, H.only⟩
theorem right_15 (a b : Int) (t : ByteArray) (p q : Int) (w : World) : Calls Tryz.prog 41 #[opA ⟨15, a, b, t⟩, .int .i64 p, .int .i64 q] w (RetB (restB 15 p q ⟨15, a, b, t⟩) w) := by
  have hR : restB 15 p q ⟨15, a, b, t⟩ = (!(textE t) && (isFlagB a && withinB b 0 1)) := rfl
  rw [hR]
  refine Hs.enter Tryz.func41 [] [] [] [.g [.v (.int .i64 15), .v (.int .i64 a), .v (.int .i64 b), .v (.string t)], .c (.v (.int .i64 p)), .c (.v (.int .i64 q))] (Mem.start0 w) (by kernel_rfl) (by kernel_rfl) ?_
  refine Hs.run1 300 (fun _ => by kernel_rfl) fun b0 => ?_
  refine Hs.callV (v := .bool true) (fun w' H => within_any 15 1 16 w') (by kernel_rfl) ?_
  refine Hs.run0 300 (fun _ => by kernel_rfl) ?_
  refine Hs.condF (by kernel_rfl) ?_
  refine Hs.run0 300 (fun _ => by kernel_rfl) ?_
  refine Hs.any [0] (by kernel_rfl) ?_
  refine Hs.run0 300 (fun _ => by kernel_rfl) ?_
  apply Hs.share1 (β' := [] ++ [b0])
  · intro K
    refine Hs.branch2 0 4 (by kernel_rfl) ?_ ?_
    · refine Hs.callV (v := .agg sortC.toArray) (fun w' H => sorts_any w') (by kernel_rfl) ?_
      refine Hs.run1 300 (fun _ => by kernel_rfl) fun b1 => ?_
      exact K b1
    · refine Hs.run1 300 (fun _ => by kernel_rfl) fun b1 => ?_
      refine Hs.callV (v := .agg sortC.toArray) (fun w' H => sorts_any w') (by kernel_rfl) ?_
      refine Hs.run0 300 (fun _ => by kernel_rfl) ?_
      exact Hs.eqM (K b1) (by kernel_rfl) (by kernel_rfl)
  intro b1
  refine Hs.rung0 [3, 8] 300 (fun _ => by kernel_rfl) ?_
  refine Hs.bool 16 (textE t) (by kernel_rfl) (fun ht => ?_) (fun ht => ?_)
  · refine Hs.condT (by kernel_rfl) ?_
    refine Hs.rung0 [3, 8] 300 (fun _ => by kernel_rfl) ?_
    refine Hs.condT (by kernel_rfl) ?_
    refine Hs.run0 300 (fun _ => by kernel_rfl) ?_
    exact Hs.ret (v := .bool false) Tryz.func41 (by kernel_rfl) fun w' H => ⟨by rw [show (textE t) = true from ht]; rfl, H.only⟩
  refine Hs.condF (by kernel_rfl) ?_
  refine Hs.rung0 [3, 8] 300 (fun _ => by kernel_rfl) ?_
  refine Hs.condF (by kernel_rfl) ?_
  refine Hs.rung0 [3, 8] 300 (fun _ => by kernel_rfl) ?_
  refine Hs.condF (by kernel_rfl) ?_
  refine Hs.run0 300 (fun _ => by kernel_rfl) ?_
  refine Hs.callV (v := .bool (isFlagB a && withinB b 0 1)) (fun w' H => plMode_any p q ⟨15, a, b, t⟩ w') (by kernel_rfl) ?_
  refine Hs.run0 300 (fun _ => by kernel_rfl) ?_
  exact Hs.ret (v := .bool (isFlagB a && withinB b 0 1)) Tryz.func41 (by kernel_rfl) fun w' H => ⟨by rw [show (textE t) = false from ht]; rfl, H.only⟩
theorem right_16 (a b : Int) (t : ByteArray) (p q : Int) (w : World) : Calls Tryz.prog 41 #[opA ⟨16, a, b, t⟩, .int .i64 p, .int .i64 q] w (RetB (restB 16 p q ⟨16, a, b, t⟩) w) := by
  have hR : restB 16 p q ⟨16, a, b, t⟩ = (!(textE t) && (!(b != 0) && (!(a != 0) && (true)))) := rfl
  rw [hR]
  refine Hs.enter Tryz.func41 [] [] [] [.g [.v (.int .i64 16), .v (.int .i64 a), .v (.int .i64 b), .v (.string t)], .c (.v (.int .i64 p)), .c (.v (.int .i64 q))] (Mem.start0 w) (by kernel_rfl) (by kernel_rfl) ?_
  refine Hs.run1 300 (fun _ => by kernel_rfl) fun b0 => ?_
  refine Hs.callV (v := .bool true) (fun w' H => within_any 16 1 16 w') (by kernel_rfl) ?_
  refine Hs.run0 300 (fun _ => by kernel_rfl) ?_
  refine Hs.condF (by kernel_rfl) ?_
  refine Hs.run0 300 (fun _ => by kernel_rfl) ?_
  refine Hs.any [0] (by kernel_rfl) ?_
  refine Hs.run0 300 (fun _ => by kernel_rfl) ?_
  apply Hs.share1 (β' := [] ++ [b0])
  · intro K
    refine Hs.branch2 0 4 (by kernel_rfl) ?_ ?_
    · refine Hs.callV (v := .agg sortC.toArray) (fun w' H => sorts_any w') (by kernel_rfl) ?_
      refine Hs.run1 300 (fun _ => by kernel_rfl) fun b1 => ?_
      exact K b1
    · refine Hs.run1 300 (fun _ => by kernel_rfl) fun b1 => ?_
      refine Hs.callV (v := .agg sortC.toArray) (fun w' H => sorts_any w') (by kernel_rfl) ?_
      refine Hs.run0 300 (fun _ => by kernel_rfl) ?_
      exact Hs.eqM (K b1) (by kernel_rfl) (by kernel_rfl)
  intro b1
  refine Hs.rung0 [3, 8] 300 (fun _ => by kernel_rfl) ?_
  refine Hs.bool 16 (textE t) (by kernel_rfl) (fun ht => ?_) (fun ht => ?_)
  · refine Hs.condT (by kernel_rfl) ?_
    refine Hs.rung0 [3, 8] 300 (fun _ => by kernel_rfl) ?_
    refine Hs.condT (by kernel_rfl) ?_
    refine Hs.run0 300 (fun _ => by kernel_rfl) ?_
    exact Hs.ret (v := .bool false) Tryz.func41 (by kernel_rfl) fun w' H => ⟨by rw [show (textE t) = true from ht]; rfl, H.only⟩
  refine Hs.condF (by kernel_rfl) ?_
  refine Hs.rung0 [3, 8] 300 (fun _ => by kernel_rfl) ?_
  refine Hs.bool 16 (b != 0) (by kernel_rfl) (fun hb => ?_) (fun hb => ?_)
  · refine Hs.condT (by kernel_rfl) ?_
    refine Hs.rung0 [3, 8] 300 (fun _ => by kernel_rfl) ?_
    refine Hs.condT (by kernel_rfl) ?_
    refine Hs.run0 300 (fun _ => by kernel_rfl) ?_
    exact Hs.ret (v := .bool false) Tryz.func41 (by kernel_rfl) fun w' H => ⟨by rw [show (textE t) = false from ht]; rw [show (b != 0) = true from hb]; rfl, H.only⟩
  refine Hs.condF (by kernel_rfl) ?_
  refine Hs.rung0 [3, 8] 300 (fun _ => by kernel_rfl) ?_
  refine Hs.bool 16 (a != 0) (by kernel_rfl) (fun ha => ?_) (fun ha => ?_)
  · refine Hs.condT (by kernel_rfl) ?_
    
    
    refine Hs.run0 300 (fun _ => by kernel_rfl) ?_
    exact Hs.ret (v := .bool false) Tryz.func41 (by kernel_rfl) fun w' H => ⟨by rw [show (textE t) = false from ht]; rw [show (b != 0) = false from hb]; rw [show (a != 0) = true from ha]; rfl, H.only⟩
  refine Hs.condF (by kernel_rfl) ?_
  refine Hs.run0 300 (fun _ => by kernel_rfl) ?_
  refine Hs.callV (v := .bool (true)) (fun w' H => plAny_any p q ⟨16, a, b, t⟩ w') (by kernel_rfl) ?_
  refine Hs.run0 300 (fun _ => by kernel_rfl) ?_
  exact Hs.ret (v := .bool (true)) Tryz.func41 (by kernel_rfl) fun w' H => ⟨by rw [show (textE t) = false from ht]; rw [show (b != 0) = false from hb]; rw [show (a != 0) = false from ha]; rfl, H.only⟩
end Go.Proofs.YtmmcamkmglpgiaaGreatDoor
