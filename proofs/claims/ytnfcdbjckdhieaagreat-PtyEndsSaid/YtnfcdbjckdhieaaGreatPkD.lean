/- Layer 8: settings: whether a flag is on, what a character is, a flag set; for all settings; no condition · Layer 9: what a byte is made of as it comes in; for all bytes and settings; no condition · Layer 12: what goes out of a byte, and the column behind it; for all bytes, settings and columns; no condition · The machine: calls that turn a block that the call itself has made; a slice of ours that is read from here on; bytes as a string; over any program; no condition · The machine: a call that makes a block; over any program; no condition · Layer 15: what a byte that is typed does to a flow; for all settings, flows and bytes; no condition · Layer 15: what so many bytes that wait, and what a program's wish, do to a flow; for all settings, flows and numbers; no condition · slices.Grow of nil, slices.Concat, slices.Clone: at bytes, at lines; for all contents of at most a million; no other condition · Layer 11: how a byte and a line are shown, and the columns behind them; layer 9: a byte as it is read; for all settings and bytes; no condition but a line's length. -/
import Derived.Test.YtnfcdbjckdhieaaGreatPkC
import Derived.Test.YtnfcdbjckdhieaaGreatPkBB
import Derived.Laws.IdiomStrings
namespace Go.Proofs.YtnfcdbjckdhieaaGreat
set_option linter.all false
set_option maxRecDepth 100000
open Go.RowKit

/-- A setting. -/
structure TM where
  ch : Nat → Int
  fl : Int
  inn : Int
  out : Int
  mn : Int
  tm : Int
def TM.sc (t : TM) : List SC := [.v (.int .u8 (t.ch 0)), .v (.int .u8 (t.ch 1)), .v (.int .u8 (t.ch 2)), .v (.int .u8 (t.ch 3)), .v (.int .u8 (t.ch 4)), .v (.int .u8 (t.ch 5)), .v (.int .u8 (t.ch 6)), .v (.int .u8 (t.ch 7)), .v (.int .u8 (t.ch 8)), .v (.int .u8 (t.ch 9)), .v (.int .u8 (t.ch 10)), .v (.int .u8 (t.ch 11)), .v (.int .u8 (t.ch 12)), .v (.int .u8 (t.ch 13)), .v (.int .u8 (t.ch 14)), .v (.int .u8 (t.ch 15)), .v (.int .u8 (t.ch 16)), .v (.int .u8 (t.ch 17)), .v (.int .u8 (t.ch 18)), .v (.int .u64 t.fl), .v (.int .u32 t.inn), .v (.int .u32 t.out), .v (.int .i64 t.mn), .v (.int .i64 t.tm)]
def TM.cells (t : TM) : List Value := [.int .u8 (t.ch 0), .int .u8 (t.ch 1), .int .u8 (t.ch 2), .int .u8 (t.ch 3), .int .u8 (t.ch 4), .int .u8 (t.ch 5), .int .u8 (t.ch 6), .int .u8 (t.ch 7), .int .u8 (t.ch 8), .int .u8 (t.ch 9), .int .u8 (t.ch 10), .int .u8 (t.ch 11), .int .u8 (t.ch 12), .int .u8 (t.ch 13), .int .u8 (t.ch 14), .int .u8 (t.ch 15), .int .u8 (t.ch 16), .int .u8 (t.ch 17), .int .u8 (t.ch 18), .int .u64 t.fl, .int .u32 t.inn, .int .u32 t.out, .int .i64 t.mn, .int .i64 t.tm]
def TM.val (t : TM) : Value := .agg #[.int .u8 (t.ch 0), .int .u8 (t.ch 1), .int .u8 (t.ch 2), .int .u8 (t.ch 3), .int .u8 (t.ch 4), .int .u8 (t.ch 5), .int .u8 (t.ch 6), .int .u8 (t.ch 7), .int .u8 (t.ch 8), .int .u8 (t.ch 9), .int .u8 (t.ch 10), .int .u8 (t.ch 11), .int .u8 (t.ch 12), .int .u8 (t.ch 13), .int .u8 (t.ch 14), .int .u8 (t.ch 15), .int .u8 (t.ch 16), .int .u8 (t.ch 17), .int .u8 (t.ch 18), .int .u64 t.fl, .int .u32 t.inn, .int .u32 t.out, .int .i64 t.mn, .int .i64 t.tm]
def isFlagB (op : Int) : Bool := (decide (30 ≤ op) && decide (op ≤ 42)) || ((decide (50 ≤ op) && decide (op ≤ 62)) || ((decide (70 ≤ op) && decide (op ≤ 75)) || (decide (90 ≤ op) && decide (op ≤ 93))))
def bitI (op : Int) : Int := ((2 ^ (op - 30).toNat : Nat) : Int)
/-- A flag is on. -/
def hasI (fl op : Int) : Bool := isFlagB op && (IntKind.u64.wrap (((BitVec.ofInt 64 fl) &&& (BitVec.ofInt 64 (bitI op))).toNat) != 0)
def TM.has (t : TM) (op : Int) : Bool := hasI t.fl op
/-- With a flag on, or off. -/
def setI (fl op : Int) (on : Bool) : Int := if isFlagB op then (if on then IntKind.u64.wrap (((BitVec.ofInt 64 fl) ||| (BitVec.ofInt 64 (bitI op))).toNat) else IntKind.u64.wrap (((BitVec.ofInt 64 fl) &&& ~~~(BitVec.ofInt 64 (bitI op))).toNat)) else fl
def TM.set (t : TM) (op : Int) (on : Bool) : TM := { t with fl := setI t.fl op on }
theorem groups_any (w : World) : Calls Tryz.prog 160 #[] w fun e w' => e = .returned (.agg #[.int .i64 30, .int .i64 42, .int .i64 50, .int .i64 62, .int .i64 70, .int .i64 75, .int .i64 90, .int .i64 93]) ∧ Only [] w w' := by
  refine Hs.enter Tryz.func160 [] [] [] [] (Mem.start0 w) (by kernel_rfl) (by kernel_rfl) ?_
  refine Hs.run1 300 (fun _ => by kernel_rfl) fun b0 => ?_
  exact Hs.ret (v := .agg #[.int .i64 30, .int .i64 42, .int .i64 50, .int .i64 62, .int .i64 70, .int .i64 75, .int .i64 90, .int .i64 93]) Tryz.func160 (by kernel_rfl) fun w' H => ⟨rfl, H.only⟩
theorem flag_step {x y op : Int} {r : Bool} : ((decide (x ≤ op) && decide (op ≤ y)) || r) = if x ≤ op ∧ op ≤ y then true else r := by
  by_cases h1 : x ≤ op <;> by_cases h2 : op ≤ y <;> simp [h1, h2]
theorem isFlag_any (op : Int) (w : World) : Calls Tryz.prog 121 #[.int .i64 op] w fun e w' => e = .returned (.bool (isFlagB op)) ∧ Only [] w w' := by
  have J4 : ¬ ((30 : Int) ≤ op ∧ op ≤ 42) → ¬ ((50 : Int) ≤ op ∧ op ≤ 62) → ¬ ((70 : Int) ≤ op ∧ op ≤ 75) → ¬ ((90 : Int) ≤ op ∧ op ≤ 93) → ∀ u : Nat → Value, Hs Tryz.prog 121 (fun e w' => e = .returned (.bool (isFlagB op)) ∧ Only [] w w') (Tryz.f121).ntmps w [] [] ⟨.no, loopAt Tryz.f121 0, pins [(0, .c (.v (.int .i64 op))), (2, .c (.v (.bool false))), (5, .c (.v (.agg #[.int .i64 30, .int .i64 42, .int .i64 50, .int .i64 62, .int .i64 70, .int .i64 75, .int .i64 90, .int .i64 93]))), (6, .c (.v (.int .i64 4)))] (.vals u), []⟩ := by
    intro g0 g1 g2 g3 u
    refine Hs.run0 300 (fun _ => by kernel_rfl) ?_
    refine Hs.condF (by kernel_rfl) ?_
    refine Hs.run0 300 (fun _ => by kernel_rfl) ?_
    have e : isFlagB op = false := by
      simp only [isFlagB, flag_step, if_neg g0, if_neg g1, if_neg g2]
      simpa using g3
    exact Hs.ret (v := .bool false) Tryz.func121 (by kernel_rfl) fun w' H => ⟨by rw [e], H.only⟩
  have J3 : ¬ ((30 : Int) ≤ op ∧ op ≤ 42) → ¬ ((50 : Int) ≤ op ∧ op ≤ 62) → ¬ ((70 : Int) ≤ op ∧ op ≤ 75) → ∀ u : Nat → Value, Hs Tryz.prog 121 (fun e w' => e = .returned (.bool (isFlagB op)) ∧ Only [] w w') (Tryz.f121).ntmps w [] [] ⟨.no, loopAt Tryz.f121 0, pins [(0, .c (.v (.int .i64 op))), (2, .c (.v (.bool false))), (5, .c (.v (.agg #[.int .i64 30, .int .i64 42, .int .i64 50, .int .i64 62, .int .i64 70, .int .i64 75, .int .i64 90, .int .i64 93]))), (6, .c (.v (.int .i64 3)))] (.vals u), []⟩ := by
    intro g0 g1 g2 u
    refine Hs.run0 300 (fun _ => by kernel_rfl) ?_
    refine Hs.condT (by kernel_rfl) ?_
    refine Hs.run1 300 (fun _ => by kernel_rfl) fun c0 => ?_
    refine Hs.bool 13 (decide ((90 : Int) ≤ op)) (by kernel_rfl) (fun h => ?_) (fun h => ?_)
    · have h1 := of_decide_eq_true h
      refine Hs.rung0 [4] 300 (fun _ => by kernel_rfl) ?_
      refine Hs.condP (op ≤ (93 : Int)) (by kernel_rfl) (fun h2 => ?_) (fun h2 => ?_)
      · have e : isFlagB op = true := by
          simp only [isFlagB, flag_step, if_neg g0, if_neg g1, if_neg g2]
          simp [h1, h2]
        refine Hs.run0 300 (fun _ => by kernel_rfl) ?_
        exact Hs.ret (v := .bool true) Tryz.func121 (by kernel_rfl) fun w' H => ⟨by rw [e], H.only⟩
      · refine Hs.run0 300 (fun _ => by kernel_rfl) ?_
        refine Hs.loop (by kernel_rfl) ?_
        exact Hs.goto (loopAt Tryz.f121 0) [] [] [(0, .c (.v (.int .i64 op))), (2, .c (.v (.bool false))), (5, .c (.v (.agg #[.int .i64 30, .int .i64 42, .int .i64 50, .int .i64 62, .int .i64 70, .int .i64 75, .int .i64 90, .int .i64 93]))), (6, .c (.v (.int .i64 4)))] (by kernel_rfl) (by decide) (by kernel_rfl) (by kernel_rfl) (fun _ => (by kernel_rfl)) (J4 g0 g1 g2 (fun h => by omega))
    · have h1 := of_decide_eq_false h
      refine Hs.rung0 [4] 300 (fun _ => by kernel_rfl) ?_
      refine Hs.condF (by kernel_rfl) ?_
      refine Hs.run0 300 (fun _ => by kernel_rfl) ?_
      refine Hs.loop (by kernel_rfl) ?_
      exact Hs.goto (loopAt Tryz.f121 0) [] [] [(0, .c (.v (.int .i64 op))), (2, .c (.v (.bool false))), (5, .c (.v (.agg #[.int .i64 30, .int .i64 42, .int .i64 50, .int .i64 62, .int .i64 70, .int .i64 75, .int .i64 90, .int .i64 93]))), (6, .c (.v (.int .i64 4)))] (by kernel_rfl) (by decide) (by kernel_rfl) (by kernel_rfl) (fun _ => (by kernel_rfl)) (J4 g0 g1 g2 (fun h => by omega))
  have J2 : ¬ ((30 : Int) ≤ op ∧ op ≤ 42) → ¬ ((50 : Int) ≤ op ∧ op ≤ 62) → ∀ u : Nat → Value, Hs Tryz.prog 121 (fun e w' => e = .returned (.bool (isFlagB op)) ∧ Only [] w w') (Tryz.f121).ntmps w [] [] ⟨.no, loopAt Tryz.f121 0, pins [(0, .c (.v (.int .i64 op))), (2, .c (.v (.bool false))), (5, .c (.v (.agg #[.int .i64 30, .int .i64 42, .int .i64 50, .int .i64 62, .int .i64 70, .int .i64 75, .int .i64 90, .int .i64 93]))), (6, .c (.v (.int .i64 2)))] (.vals u), []⟩ := by
    intro g0 g1 u
    refine Hs.run0 300 (fun _ => by kernel_rfl) ?_
    refine Hs.condT (by kernel_rfl) ?_
    refine Hs.run1 300 (fun _ => by kernel_rfl) fun c0 => ?_
    refine Hs.bool 13 (decide ((70 : Int) ≤ op)) (by kernel_rfl) (fun h => ?_) (fun h => ?_)
    · have h1 := of_decide_eq_true h
      refine Hs.rung0 [4] 300 (fun _ => by kernel_rfl) ?_
      refine Hs.condP (op ≤ (75 : Int)) (by kernel_rfl) (fun h2 => ?_) (fun h2 => ?_)
      · have e : isFlagB op = true := by
          simp only [isFlagB, flag_step, if_neg g0, if_neg g1]
          simp [h1, h2]
        refine Hs.run0 300 (fun _ => by kernel_rfl) ?_
        exact Hs.ret (v := .bool true) Tryz.func121 (by kernel_rfl) fun w' H => ⟨by rw [e], H.only⟩
      · refine Hs.run0 300 (fun _ => by kernel_rfl) ?_
        refine Hs.loop (by kernel_rfl) ?_
        exact Hs.goto (loopAt Tryz.f121 0) [] [] [(0, .c (.v (.int .i64 op))), (2, .c (.v (.bool false))), (5, .c (.v (.agg #[.int .i64 30, .int .i64 42, .int .i64 50, .int .i64 62, .int .i64 70, .int .i64 75, .int .i64 90, .int .i64 93]))), (6, .c (.v (.int .i64 3)))] (by kernel_rfl) (by decide) (by kernel_rfl) (by kernel_rfl) (fun _ => (by kernel_rfl)) (J3 g0 g1 (fun h => by omega))
    · have h1 := of_decide_eq_false h
      refine Hs.rung0 [4] 300 (fun _ => by kernel_rfl) ?_
      refine Hs.condF (by kernel_rfl) ?_
      refine Hs.run0 300 (fun _ => by kernel_rfl) ?_
      refine Hs.loop (by kernel_rfl) ?_
      exact Hs.goto (loopAt Tryz.f121 0) [] [] [(0, .c (.v (.int .i64 op))), (2, .c (.v (.bool false))), (5, .c (.v (.agg #[.int .i64 30, .int .i64 42, .int .i64 50, .int .i64 62, .int .i64 70, .int .i64 75, .int .i64 90, .int .i64 93]))), (6, .c (.v (.int .i64 3)))] (by kernel_rfl) (by decide) (by kernel_rfl) (by kernel_rfl) (fun _ => (by kernel_rfl)) (J3 g0 g1 (fun h => by omega))
  have J1 : ¬ ((30 : Int) ≤ op ∧ op ≤ 42) → ∀ u : Nat → Value, Hs Tryz.prog 121 (fun e w' => e = .returned (.bool (isFlagB op)) ∧ Only [] w w') (Tryz.f121).ntmps w [] [] ⟨.no, loopAt Tryz.f121 0, pins [(0, .c (.v (.int .i64 op))), (2, .c (.v (.bool false))), (5, .c (.v (.agg #[.int .i64 30, .int .i64 42, .int .i64 50, .int .i64 62, .int .i64 70, .int .i64 75, .int .i64 90, .int .i64 93]))), (6, .c (.v (.int .i64 1)))] (.vals u), []⟩ := by
    intro g0 u
    refine Hs.run0 300 (fun _ => by kernel_rfl) ?_
    refine Hs.condT (by kernel_rfl) ?_
    refine Hs.run1 300 (fun _ => by kernel_rfl) fun c0 => ?_
    refine Hs.bool 13 (decide ((50 : Int) ≤ op)) (by kernel_rfl) (fun h => ?_) (fun h => ?_)
    · have h1 := of_decide_eq_true h
      refine Hs.rung0 [4] 300 (fun _ => by kernel_rfl) ?_
      refine Hs.condP (op ≤ (62 : Int)) (by kernel_rfl) (fun h2 => ?_) (fun h2 => ?_)
      · have e : isFlagB op = true := by
          simp only [isFlagB, flag_step, if_neg g0]
          simp [h1, h2]
        refine Hs.run0 300 (fun _ => by kernel_rfl) ?_
        exact Hs.ret (v := .bool true) Tryz.func121 (by kernel_rfl) fun w' H => ⟨by rw [e], H.only⟩
      · refine Hs.run0 300 (fun _ => by kernel_rfl) ?_
        refine Hs.loop (by kernel_rfl) ?_
        exact Hs.goto (loopAt Tryz.f121 0) [] [] [(0, .c (.v (.int .i64 op))), (2, .c (.v (.bool false))), (5, .c (.v (.agg #[.int .i64 30, .int .i64 42, .int .i64 50, .int .i64 62, .int .i64 70, .int .i64 75, .int .i64 90, .int .i64 93]))), (6, .c (.v (.int .i64 2)))] (by kernel_rfl) (by decide) (by kernel_rfl) (by kernel_rfl) (fun _ => (by kernel_rfl)) (J2 g0 (fun h => by omega))
    · have h1 := of_decide_eq_false h
      refine Hs.rung0 [4] 300 (fun _ => by kernel_rfl) ?_
      refine Hs.condF (by kernel_rfl) ?_
      refine Hs.run0 300 (fun _ => by kernel_rfl) ?_
      refine Hs.loop (by kernel_rfl) ?_
      exact Hs.goto (loopAt Tryz.f121 0) [] [] [(0, .c (.v (.int .i64 op))), (2, .c (.v (.bool false))), (5, .c (.v (.agg #[.int .i64 30, .int .i64 42, .int .i64 50, .int .i64 62, .int .i64 70, .int .i64 75, .int .i64 90, .int .i64 93]))), (6, .c (.v (.int .i64 2)))] (by kernel_rfl) (by decide) (by kernel_rfl) (by kernel_rfl) (fun _ => (by kernel_rfl)) (J2 g0 (fun h => by omega))
  have J0 : ∀ u : Nat → Value, Hs Tryz.prog 121 (fun e w' => e = .returned (.bool (isFlagB op)) ∧ Only [] w w') (Tryz.f121).ntmps w [] [] ⟨.no, loopAt Tryz.f121 0, pins [(0, .c (.v (.int .i64 op))), (2, .c (.v (.bool false))), (5, .c (.v (.agg #[.int .i64 30, .int .i64 42, .int .i64 50, .int .i64 62, .int .i64 70, .int .i64 75, .int .i64 90, .int .i64 93]))), (6, .c (.v (.int .i64 0)))] (.vals u), []⟩ := by
    intro  u
    refine Hs.run0 300 (fun _ => by kernel_rfl) ?_
    refine Hs.condT (by kernel_rfl) ?_
    refine Hs.run1 300 (fun _ => by kernel_rfl) fun c0 => ?_
    refine Hs.bool 13 (decide ((30 : Int) ≤ op)) (by kernel_rfl) (fun h => ?_) (fun h => ?_)
    · have h1 := of_decide_eq_true h
      refine Hs.rung0 [4] 300 (fun _ => by kernel_rfl) ?_
      refine Hs.condP (op ≤ (42 : Int)) (by kernel_rfl) (fun h2 => ?_) (fun h2 => ?_)
      · have e : isFlagB op = true := by
          simp only [isFlagB, flag_step]
          simp [h1, h2]
        refine Hs.run0 300 (fun _ => by kernel_rfl) ?_
        exact Hs.ret (v := .bool true) Tryz.func121 (by kernel_rfl) fun w' H => ⟨by rw [e], H.only⟩
      · refine Hs.run0 300 (fun _ => by kernel_rfl) ?_
        refine Hs.loop (by kernel_rfl) ?_
        exact Hs.goto (loopAt Tryz.f121 0) [] [] [(0, .c (.v (.int .i64 op))), (2, .c (.v (.bool false))), (5, .c (.v (.agg #[.int .i64 30, .int .i64 42, .int .i64 50, .int .i64 62, .int .i64 70, .int .i64 75, .int .i64 90, .int .i64 93]))), (6, .c (.v (.int .i64 1)))] (by kernel_rfl) (by decide) (by kernel_rfl) (by kernel_rfl) (fun _ => (by kernel_rfl)) (J1  (fun h => by omega))
    · have h1 := of_decide_eq_false h
      refine Hs.rung0 [4] 300 (fun _ => by kernel_rfl) ?_
      refine Hs.condF (by kernel_rfl) ?_
      refine Hs.run0 300 (fun _ => by kernel_rfl) ?_
      refine Hs.loop (by kernel_rfl) ?_
      exact Hs.goto (loopAt Tryz.f121 0) [] [] [(0, .c (.v (.int .i64 op))), (2, .c (.v (.bool false))), (5, .c (.v (.agg #[.int .i64 30, .int .i64 42, .int .i64 50, .int .i64 62, .int .i64 70, .int .i64 75, .int .i64 90, .int .i64 93]))), (6, .c (.v (.int .i64 1)))] (by kernel_rfl) (by decide) (by kernel_rfl) (by kernel_rfl) (fun _ => (by kernel_rfl)) (J1  (fun h => by omega))
  refine Hs.enter Tryz.func121 [] [] [] [.c (.v (.int .i64 op))] (Mem.start0 w) (by kernel_rfl) (by kernel_rfl) ?_
  refine Hs.run0 300 (fun _ => by kernel_rfl) ?_
  refine Hs.callV (fun w' H => groups_any w') (by kernel_rfl) ?_
  refine Hs.run0 300 (fun _ => by kernel_rfl) ?_
  refine Hs.loop (by kernel_rfl) ?_
  exact Hs.goto (loopAt Tryz.f121 0) [] [] [(0, .c (.v (.int .i64 op))), (2, .c (.v (.bool false))), (5, .c (.v (.agg #[.int .i64 30, .int .i64 42, .int .i64 50, .int .i64 62, .int .i64 70, .int .i64 75, .int .i64 90, .int .i64 93]))), (6, .c (.v (.int .i64 0)))] (by kernel_rfl) (by decide) (by kernel_rfl) (by kernel_rfl) (fun _ => (by kernel_rfl)) J0
theorem flag_lo {op : Int} (h : isFlagB op = true) : 30 ≤ op ∧ op ≤ 93 := by
  simp [isFlagB] at h
  omega
theorem bit_any (op : Int) (h1 : 30 ≤ op) (h2 : op ≤ 93) (w : World) : Calls Tryz.prog 74 #[.int .i64 op] w fun e w' => e = .returned (.int .u64 (bitI op)) ∧ Only [] w w' := by
  refine Hs.enter Tryz.func74 [] [] [] [.c (.v (.int .i64 op))] (Mem.start0 w) (by kernel_rfl) (by kernel_rfl) ?_
  refine Hs.rung0 [] 8 (fun _ => (by kernel_rfl)) ?_
  have e : IntKind.i64.wrap (op - 30) = op - 30 := IntWalk.i64_in _ (by omega)
  have e2 : IntKind.u64.wrap ((1 : Int) * 2 ^ min (op - 30).toNat 64) = bitI op := by
    rw [Nat.min_eq_left (by omega), Int.one_mul]
    unfold bitI
    have h3 : (2 : Int) ^ (op - 30).toNat = ((2 ^ (op - 30).toNat : Nat) : Int) := (Int.natCast_pow 2 _).symm
    have h6 : (op - 30).toNat < 64 := by omega
    have h4 : 2 ^ (op - 30).toNat < 2 ^ 64 := Nat.pow_lt_pow_right (by decide) h6
    rw [h3]
    generalize 2 ^ (op - 30).toNat = q at h4
    have h7 : q < 18446744073709551616 := h4
    have h5 : (q : Int) < 18446744073709551616 := by omega
    show ((q : Int) % (18446744073709551616 : Int)) = _
    exact Int.emod_eq_of_lt (Int.natCast_nonneg q) h5
  refine Hs.bin (op := .shl) (T := 23) (k := .u64) (k' := .i64) (a := 1) (b := IntKind.i64.wrap (op - 30)) (.int .u64 (IntKind.u64.wrap ((1 : Int) * 2 ^ min (IntKind.i64.wrap (op - 30)).toNat 64))) (by kernel_rfl) (fun w => run_shl (by rw [e]; omega) w) ?_
  refine Hs.run0 300 (fun _ => by kernel_rfl) ?_
  exact Hs.ret (v := .int .u64 (IntKind.u64.wrap ((1 : Int) * 2 ^ min (IntKind.i64.wrap (op - 30)).toNat 64))) Tryz.func74 (by kernel_rfl) fun w' H => ⟨by rw [e, e2], H.only⟩
theorem has_any (t : TM) (op : Int) (w : World) : Calls Tryz.prog 80 #[t.val, .int .i64 op] w fun e w' => e = .returned (.bool (t.has op)) ∧ Only [] w w' := by
  obtain ⟨ch, fl, inn, out, mn, tm⟩ := t
  refine Hs.enter Tryz.func80 [] [] [] [.g (TM.sc ⟨ch, fl, inn, out, mn, tm⟩), .c (.v (.int .i64 op))] (Mem.start0 w) (by kernel_rfl) (by kernel_rfl) ?_
  refine Hs.run1 300 (fun _ => by kernel_rfl) fun b0 => ?_
  refine Hs.any [0] (by kernel_rfl) ?_
  refine Hs.run0 300 (fun _ => by kernel_rfl) ?_
  refine Hs.callV (fun w' H => isFlag_any op w') (by kernel_rfl) ?_
  refine Hs.run0 300 (fun _ => by kernel_rfl) ?_
  refine Hs.bool 7 (isFlagB op) (by kernel_rfl) (fun h => ?_) (fun h => ?_)
  · obtain ⟨h1, h2⟩ := flag_lo h
    refine Hs.rung0 [2] 300 (fun _ => by kernel_rfl) ?_
    refine Hs.callV (fun w' H => bit_any op h1 h2 w') (by kernel_rfl) ?_
    refine Hs.rung0 [2] 300 (fun _ => by kernel_rfl) ?_
    exact Hs.ret (v := .bool ((IntKind.u64.wrap (((BitVec.ofInt 64 fl) &&& (BitVec.ofInt 64 (bitI op))).toNat) != 0))) Tryz.func80 (by kernel_rfl) fun w' H => ⟨by simp only [TM.has, hasI, h, Bool.true_and], H.only⟩
  · refine Hs.rung0 [2] 300 (fun _ => by kernel_rfl) ?_
    exact Hs.ret (v := .bool false) Tryz.func80 (by kernel_rfl) fun w' H => ⟨by simp only [TM.has, hasI, h, Bool.false_and], H.only⟩
def TM.chr (t : TM) (op : Nat) : Int := if t.ch op == 255 then 0 else t.ch op
def TM.on (t : TM) (op : Nat) : Bool := !(t.ch op == 255)
def TM.is (t : TM) (op : Nat) (c : Int) : Bool := t.on op && c == t.ch op
theorem char_1 (t : TM) (w : World) : Calls Tryz.prog 122 #[t.val, .int .i64 1] w fun e w' => e = .returned (.tuple #[.int .u8 (t.chr 1), .bool (t.on 1)]) ∧ Only [] w w' := by
  refine Hs.enter Tryz.func122 [] [] [] [.g t.sc, .c (.v (.int .i64 1))] (Mem.start0 w) (by kernel_rfl) (by kernel_rfl) ?_
  refine Hs.run1 300 (fun _ => by kernel_rfl) fun b0 => ?_
  refine Hs.rung0 [2] 300 (fun _ => by kernel_rfl) ?_
  refine Hs.rung0 [2, 6] 300 (fun _ => by kernel_rfl) ?_
  refine Hs.cond (t.ch 1 == 255) (by kernel_rfl) (fun h => ?_) (fun h => ?_)
  · refine Hs.run0 300 (fun _ => by kernel_rfl) ?_
    exact Hs.ret (v := .tuple #[.int .u8 0, .bool false]) Tryz.func122 (by kernel_rfl) fun w' H => ⟨by simp only [TM.chr, TM.on, h, if_true, Bool.not_true], H.only⟩
  · refine Hs.run0 300 (fun _ => by kernel_rfl) ?_
    exact Hs.ret (v := .tuple #[.int .u8 (t.ch 1), .bool true]) Tryz.func122 (by kernel_rfl) fun w' H => ⟨by simp only [TM.chr, TM.on, h, Bool.false_eq_true, if_false, Bool.not_false], H.only⟩
theorem char_2 (t : TM) (w : World) : Calls Tryz.prog 122 #[t.val, .int .i64 2] w fun e w' => e = .returned (.tuple #[.int .u8 (t.chr 2), .bool (t.on 2)]) ∧ Only [] w w' := by
  refine Hs.enter Tryz.func122 [] [] [] [.g t.sc, .c (.v (.int .i64 2))] (Mem.start0 w) (by kernel_rfl) (by kernel_rfl) ?_
  refine Hs.run1 300 (fun _ => by kernel_rfl) fun b0 => ?_
  refine Hs.rung0 [2] 300 (fun _ => by kernel_rfl) ?_
  refine Hs.rung0 [2, 6] 300 (fun _ => by kernel_rfl) ?_
  refine Hs.cond (t.ch 2 == 255) (by kernel_rfl) (fun h => ?_) (fun h => ?_)
  · refine Hs.run0 300 (fun _ => by kernel_rfl) ?_
    exact Hs.ret (v := .tuple #[.int .u8 0, .bool false]) Tryz.func122 (by kernel_rfl) fun w' H => ⟨by simp only [TM.chr, TM.on, h, if_true, Bool.not_true], H.only⟩
  · refine Hs.run0 300 (fun _ => by kernel_rfl) ?_
    exact Hs.ret (v := .tuple #[.int .u8 (t.ch 2), .bool true]) Tryz.func122 (by kernel_rfl) fun w' H => ⟨by simp only [TM.chr, TM.on, h, Bool.false_eq_true, if_false, Bool.not_false], H.only⟩
theorem char_3 (t : TM) (w : World) : Calls Tryz.prog 122 #[t.val, .int .i64 3] w fun e w' => e = .returned (.tuple #[.int .u8 (t.chr 3), .bool (t.on 3)]) ∧ Only [] w w' := by
  refine Hs.enter Tryz.func122 [] [] [] [.g t.sc, .c (.v (.int .i64 3))] (Mem.start0 w) (by kernel_rfl) (by kernel_rfl) ?_
  refine Hs.run1 300 (fun _ => by kernel_rfl) fun b0 => ?_
  refine Hs.rung0 [2] 300 (fun _ => by kernel_rfl) ?_
  refine Hs.rung0 [2, 6] 300 (fun _ => by kernel_rfl) ?_
  refine Hs.cond (t.ch 3 == 255) (by kernel_rfl) (fun h => ?_) (fun h => ?_)
  · refine Hs.run0 300 (fun _ => by kernel_rfl) ?_
    exact Hs.ret (v := .tuple #[.int .u8 0, .bool false]) Tryz.func122 (by kernel_rfl) fun w' H => ⟨by simp only [TM.chr, TM.on, h, if_true, Bool.not_true], H.only⟩
  · refine Hs.run0 300 (fun _ => by kernel_rfl) ?_
    exact Hs.ret (v := .tuple #[.int .u8 (t.ch 3), .bool true]) Tryz.func122 (by kernel_rfl) fun w' H => ⟨by simp only [TM.chr, TM.on, h, Bool.false_eq_true, if_false, Bool.not_false], H.only⟩
theorem char_4 (t : TM) (w : World) : Calls Tryz.prog 122 #[t.val, .int .i64 4] w fun e w' => e = .returned (.tuple #[.int .u8 (t.chr 4), .bool (t.on 4)]) ∧ Only [] w w' := by
  refine Hs.enter Tryz.func122 [] [] [] [.g t.sc, .c (.v (.int .i64 4))] (Mem.start0 w) (by kernel_rfl) (by kernel_rfl) ?_
  refine Hs.run1 300 (fun _ => by kernel_rfl) fun b0 => ?_
  refine Hs.rung0 [2] 300 (fun _ => by kernel_rfl) ?_
  refine Hs.rung0 [2, 6] 300 (fun _ => by kernel_rfl) ?_
  refine Hs.cond (t.ch 4 == 255) (by kernel_rfl) (fun h => ?_) (fun h => ?_)
  · refine Hs.run0 300 (fun _ => by kernel_rfl) ?_
    exact Hs.ret (v := .tuple #[.int .u8 0, .bool false]) Tryz.func122 (by kernel_rfl) fun w' H => ⟨by simp only [TM.chr, TM.on, h, if_true, Bool.not_true], H.only⟩
  · refine Hs.run0 300 (fun _ => by kernel_rfl) ?_
    exact Hs.ret (v := .tuple #[.int .u8 (t.ch 4), .bool true]) Tryz.func122 (by kernel_rfl) fun w' H => ⟨by simp only [TM.chr, TM.on, h, Bool.false_eq_true, if_false, Bool.not_false], H.only⟩
theorem char_5 (t : TM) (w : World) : Calls Tryz.prog 122 #[t.val, .int .i64 5] w fun e w' => e = .returned (.tuple #[.int .u8 (t.chr 5), .bool (t.on 5)]) ∧ Only [] w w' := by
  refine Hs.enter Tryz.func122 [] [] [] [.g t.sc, .c (.v (.int .i64 5))] (Mem.start0 w) (by kernel_rfl) (by kernel_rfl) ?_
  refine Hs.run1 300 (fun _ => by kernel_rfl) fun b0 => ?_
  refine Hs.rung0 [2] 300 (fun _ => by kernel_rfl) ?_
  refine Hs.rung0 [2, 6] 300 (fun _ => by kernel_rfl) ?_
  refine Hs.cond (t.ch 5 == 255) (by kernel_rfl) (fun h => ?_) (fun h => ?_)
  · refine Hs.run0 300 (fun _ => by kernel_rfl) ?_
    exact Hs.ret (v := .tuple #[.int .u8 0, .bool false]) Tryz.func122 (by kernel_rfl) fun w' H => ⟨by simp only [TM.chr, TM.on, h, if_true, Bool.not_true], H.only⟩
  · refine Hs.run0 300 (fun _ => by kernel_rfl) ?_
    exact Hs.ret (v := .tuple #[.int .u8 (t.ch 5), .bool true]) Tryz.func122 (by kernel_rfl) fun w' H => ⟨by simp only [TM.chr, TM.on, h, Bool.false_eq_true, if_false, Bool.not_false], H.only⟩
theorem char_6 (t : TM) (w : World) : Calls Tryz.prog 122 #[t.val, .int .i64 6] w fun e w' => e = .returned (.tuple #[.int .u8 (t.chr 6), .bool (t.on 6)]) ∧ Only [] w w' := by
  refine Hs.enter Tryz.func122 [] [] [] [.g t.sc, .c (.v (.int .i64 6))] (Mem.start0 w) (by kernel_rfl) (by kernel_rfl) ?_
  refine Hs.run1 300 (fun _ => by kernel_rfl) fun b0 => ?_
  refine Hs.rung0 [2] 300 (fun _ => by kernel_rfl) ?_
  refine Hs.rung0 [2, 6] 300 (fun _ => by kernel_rfl) ?_
  refine Hs.cond (t.ch 6 == 255) (by kernel_rfl) (fun h => ?_) (fun h => ?_)
  · refine Hs.run0 300 (fun _ => by kernel_rfl) ?_
    exact Hs.ret (v := .tuple #[.int .u8 0, .bool false]) Tryz.func122 (by kernel_rfl) fun w' H => ⟨by simp only [TM.chr, TM.on, h, if_true, Bool.not_true], H.only⟩
  · refine Hs.run0 300 (fun _ => by kernel_rfl) ?_
    exact Hs.ret (v := .tuple #[.int .u8 (t.ch 6), .bool true]) Tryz.func122 (by kernel_rfl) fun w' H => ⟨by simp only [TM.chr, TM.on, h, Bool.false_eq_true, if_false, Bool.not_false], H.only⟩
theorem char_7 (t : TM) (w : World) : Calls Tryz.prog 122 #[t.val, .int .i64 7] w fun e w' => e = .returned (.tuple #[.int .u8 (t.chr 7), .bool (t.on 7)]) ∧ Only [] w w' := by
  refine Hs.enter Tryz.func122 [] [] [] [.g t.sc, .c (.v (.int .i64 7))] (Mem.start0 w) (by kernel_rfl) (by kernel_rfl) ?_
  refine Hs.run1 300 (fun _ => by kernel_rfl) fun b0 => ?_
  refine Hs.rung0 [2] 300 (fun _ => by kernel_rfl) ?_
  refine Hs.rung0 [2, 6] 300 (fun _ => by kernel_rfl) ?_
  refine Hs.cond (t.ch 7 == 255) (by kernel_rfl) (fun h => ?_) (fun h => ?_)
  · refine Hs.run0 300 (fun _ => by kernel_rfl) ?_
    exact Hs.ret (v := .tuple #[.int .u8 0, .bool false]) Tryz.func122 (by kernel_rfl) fun w' H => ⟨by simp only [TM.chr, TM.on, h, if_true, Bool.not_true], H.only⟩
  · refine Hs.run0 300 (fun _ => by kernel_rfl) ?_
    exact Hs.ret (v := .tuple #[.int .u8 (t.ch 7), .bool true]) Tryz.func122 (by kernel_rfl) fun w' H => ⟨by simp only [TM.chr, TM.on, h, Bool.false_eq_true, if_false, Bool.not_false], H.only⟩
theorem char_8 (t : TM) (w : World) : Calls Tryz.prog 122 #[t.val, .int .i64 8] w fun e w' => e = .returned (.tuple #[.int .u8 (t.chr 8), .bool (t.on 8)]) ∧ Only [] w w' := by
  refine Hs.enter Tryz.func122 [] [] [] [.g t.sc, .c (.v (.int .i64 8))] (Mem.start0 w) (by kernel_rfl) (by kernel_rfl) ?_
  refine Hs.run1 300 (fun _ => by kernel_rfl) fun b0 => ?_
  refine Hs.rung0 [2] 300 (fun _ => by kernel_rfl) ?_
  refine Hs.rung0 [2, 6] 300 (fun _ => by kernel_rfl) ?_
  refine Hs.cond (t.ch 8 == 255) (by kernel_rfl) (fun h => ?_) (fun h => ?_)
  · refine Hs.run0 300 (fun _ => by kernel_rfl) ?_
    exact Hs.ret (v := .tuple #[.int .u8 0, .bool false]) Tryz.func122 (by kernel_rfl) fun w' H => ⟨by simp only [TM.chr, TM.on, h, if_true, Bool.not_true], H.only⟩
  · refine Hs.run0 300 (fun _ => by kernel_rfl) ?_
    exact Hs.ret (v := .tuple #[.int .u8 (t.ch 8), .bool true]) Tryz.func122 (by kernel_rfl) fun w' H => ⟨by simp only [TM.chr, TM.on, h, Bool.false_eq_true, if_false, Bool.not_false], H.only⟩
theorem char_9 (t : TM) (w : World) : Calls Tryz.prog 122 #[t.val, .int .i64 9] w fun e w' => e = .returned (.tuple #[.int .u8 (t.chr 9), .bool (t.on 9)]) ∧ Only [] w w' := by
  refine Hs.enter Tryz.func122 [] [] [] [.g t.sc, .c (.v (.int .i64 9))] (Mem.start0 w) (by kernel_rfl) (by kernel_rfl) ?_
  refine Hs.run1 300 (fun _ => by kernel_rfl) fun b0 => ?_
  refine Hs.rung0 [2] 300 (fun _ => by kernel_rfl) ?_
  refine Hs.rung0 [2, 6] 300 (fun _ => by kernel_rfl) ?_
  refine Hs.cond (t.ch 9 == 255) (by kernel_rfl) (fun h => ?_) (fun h => ?_)
  · refine Hs.run0 300 (fun _ => by kernel_rfl) ?_
    exact Hs.ret (v := .tuple #[.int .u8 0, .bool false]) Tryz.func122 (by kernel_rfl) fun w' H => ⟨by simp only [TM.chr, TM.on, h, if_true, Bool.not_true], H.only⟩
  · refine Hs.run0 300 (fun _ => by kernel_rfl) ?_
    exact Hs.ret (v := .tuple #[.int .u8 (t.ch 9), .bool true]) Tryz.func122 (by kernel_rfl) fun w' H => ⟨by simp only [TM.chr, TM.on, h, Bool.false_eq_true, if_false, Bool.not_false], H.only⟩
theorem char_10 (t : TM) (w : World) : Calls Tryz.prog 122 #[t.val, .int .i64 10] w fun e w' => e = .returned (.tuple #[.int .u8 (t.chr 10), .bool (t.on 10)]) ∧ Only [] w w' := by
  refine Hs.enter Tryz.func122 [] [] [] [.g t.sc, .c (.v (.int .i64 10))] (Mem.start0 w) (by kernel_rfl) (by kernel_rfl) ?_
  refine Hs.run1 300 (fun _ => by kernel_rfl) fun b0 => ?_
  refine Hs.rung0 [2] 300 (fun _ => by kernel_rfl) ?_
  refine Hs.rung0 [2, 6] 300 (fun _ => by kernel_rfl) ?_
  refine Hs.cond (t.ch 10 == 255) (by kernel_rfl) (fun h => ?_) (fun h => ?_)
  · refine Hs.run0 300 (fun _ => by kernel_rfl) ?_
    exact Hs.ret (v := .tuple #[.int .u8 0, .bool false]) Tryz.func122 (by kernel_rfl) fun w' H => ⟨by simp only [TM.chr, TM.on, h, if_true, Bool.not_true], H.only⟩
  · refine Hs.run0 300 (fun _ => by kernel_rfl) ?_
    exact Hs.ret (v := .tuple #[.int .u8 (t.ch 10), .bool true]) Tryz.func122 (by kernel_rfl) fun w' H => ⟨by simp only [TM.chr, TM.on, h, Bool.false_eq_true, if_false, Bool.not_false], H.only⟩
theorem char_11 (t : TM) (w : World) : Calls Tryz.prog 122 #[t.val, .int .i64 11] w fun e w' => e = .returned (.tuple #[.int .u8 (t.chr 11), .bool (t.on 11)]) ∧ Only [] w w' := by
  refine Hs.enter Tryz.func122 [] [] [] [.g t.sc, .c (.v (.int .i64 11))] (Mem.start0 w) (by kernel_rfl) (by kernel_rfl) ?_
  refine Hs.run1 300 (fun _ => by kernel_rfl) fun b0 => ?_
  refine Hs.rung0 [2] 300 (fun _ => by kernel_rfl) ?_
  refine Hs.rung0 [2, 6] 300 (fun _ => by kernel_rfl) ?_
  refine Hs.cond (t.ch 11 == 255) (by kernel_rfl) (fun h => ?_) (fun h => ?_)
  · refine Hs.run0 300 (fun _ => by kernel_rfl) ?_
    exact Hs.ret (v := .tuple #[.int .u8 0, .bool false]) Tryz.func122 (by kernel_rfl) fun w' H => ⟨by simp only [TM.chr, TM.on, h, if_true, Bool.not_true], H.only⟩
  · refine Hs.run0 300 (fun _ => by kernel_rfl) ?_
    exact Hs.ret (v := .tuple #[.int .u8 (t.ch 11), .bool true]) Tryz.func122 (by kernel_rfl) fun w' H => ⟨by simp only [TM.chr, TM.on, h, Bool.false_eq_true, if_false, Bool.not_false], H.only⟩
theorem char_12 (t : TM) (w : World) : Calls Tryz.prog 122 #[t.val, .int .i64 12] w fun e w' => e = .returned (.tuple #[.int .u8 (t.chr 12), .bool (t.on 12)]) ∧ Only [] w w' := by
  refine Hs.enter Tryz.func122 [] [] [] [.g t.sc, .c (.v (.int .i64 12))] (Mem.start0 w) (by kernel_rfl) (by kernel_rfl) ?_
  refine Hs.run1 300 (fun _ => by kernel_rfl) fun b0 => ?_
  refine Hs.rung0 [2] 300 (fun _ => by kernel_rfl) ?_
  refine Hs.rung0 [2, 6] 300 (fun _ => by kernel_rfl) ?_
  refine Hs.cond (t.ch 12 == 255) (by kernel_rfl) (fun h => ?_) (fun h => ?_)
  · refine Hs.run0 300 (fun _ => by kernel_rfl) ?_
    exact Hs.ret (v := .tuple #[.int .u8 0, .bool false]) Tryz.func122 (by kernel_rfl) fun w' H => ⟨by simp only [TM.chr, TM.on, h, if_true, Bool.not_true], H.only⟩
  · refine Hs.run0 300 (fun _ => by kernel_rfl) ?_
    exact Hs.ret (v := .tuple #[.int .u8 (t.ch 12), .bool true]) Tryz.func122 (by kernel_rfl) fun w' H => ⟨by simp only [TM.chr, TM.on, h, Bool.false_eq_true, if_false, Bool.not_false], H.only⟩
theorem char_13 (t : TM) (w : World) : Calls Tryz.prog 122 #[t.val, .int .i64 13] w fun e w' => e = .returned (.tuple #[.int .u8 (t.chr 13), .bool (t.on 13)]) ∧ Only [] w w' := by
  refine Hs.enter Tryz.func122 [] [] [] [.g t.sc, .c (.v (.int .i64 13))] (Mem.start0 w) (by kernel_rfl) (by kernel_rfl) ?_
  refine Hs.run1 300 (fun _ => by kernel_rfl) fun b0 => ?_
  refine Hs.rung0 [2] 300 (fun _ => by kernel_rfl) ?_
  refine Hs.rung0 [2, 6] 300 (fun _ => by kernel_rfl) ?_
  refine Hs.cond (t.ch 13 == 255) (by kernel_rfl) (fun h => ?_) (fun h => ?_)
  · refine Hs.run0 300 (fun _ => by kernel_rfl) ?_
    exact Hs.ret (v := .tuple #[.int .u8 0, .bool false]) Tryz.func122 (by kernel_rfl) fun w' H => ⟨by simp only [TM.chr, TM.on, h, if_true, Bool.not_true], H.only⟩
  · refine Hs.run0 300 (fun _ => by kernel_rfl) ?_
    exact Hs.ret (v := .tuple #[.int .u8 (t.ch 13), .bool true]) Tryz.func122 (by kernel_rfl) fun w' H => ⟨by simp only [TM.chr, TM.on, h, Bool.false_eq_true, if_false, Bool.not_false], H.only⟩
theorem char_14 (t : TM) (w : World) : Calls Tryz.prog 122 #[t.val, .int .i64 14] w fun e w' => e = .returned (.tuple #[.int .u8 (t.chr 14), .bool (t.on 14)]) ∧ Only [] w w' := by
  refine Hs.enter Tryz.func122 [] [] [] [.g t.sc, .c (.v (.int .i64 14))] (Mem.start0 w) (by kernel_rfl) (by kernel_rfl) ?_
  refine Hs.run1 300 (fun _ => by kernel_rfl) fun b0 => ?_
  refine Hs.rung0 [2] 300 (fun _ => by kernel_rfl) ?_
  refine Hs.rung0 [2, 6] 300 (fun _ => by kernel_rfl) ?_
  refine Hs.cond (t.ch 14 == 255) (by kernel_rfl) (fun h => ?_) (fun h => ?_)
  · refine Hs.run0 300 (fun _ => by kernel_rfl) ?_
    exact Hs.ret (v := .tuple #[.int .u8 0, .bool false]) Tryz.func122 (by kernel_rfl) fun w' H => ⟨by simp only [TM.chr, TM.on, h, if_true, Bool.not_true], H.only⟩
  · refine Hs.run0 300 (fun _ => by kernel_rfl) ?_
    exact Hs.ret (v := .tuple #[.int .u8 (t.ch 14), .bool true]) Tryz.func122 (by kernel_rfl) fun w' H => ⟨by simp only [TM.chr, TM.on, h, Bool.false_eq_true, if_false, Bool.not_false], H.only⟩
theorem char_15 (t : TM) (w : World) : Calls Tryz.prog 122 #[t.val, .int .i64 15] w fun e w' => e = .returned (.tuple #[.int .u8 (t.chr 15), .bool (t.on 15)]) ∧ Only [] w w' := by
  refine Hs.enter Tryz.func122 [] [] [] [.g t.sc, .c (.v (.int .i64 15))] (Mem.start0 w) (by kernel_rfl) (by kernel_rfl) ?_
  refine Hs.run1 300 (fun _ => by kernel_rfl) fun b0 => ?_
  refine Hs.rung0 [2] 300 (fun _ => by kernel_rfl) ?_
  refine Hs.rung0 [2, 6] 300 (fun _ => by kernel_rfl) ?_
  refine Hs.cond (t.ch 15 == 255) (by kernel_rfl) (fun h => ?_) (fun h => ?_)
  · refine Hs.run0 300 (fun _ => by kernel_rfl) ?_
    exact Hs.ret (v := .tuple #[.int .u8 0, .bool false]) Tryz.func122 (by kernel_rfl) fun w' H => ⟨by simp only [TM.chr, TM.on, h, if_true, Bool.not_true], H.only⟩
  · refine Hs.run0 300 (fun _ => by kernel_rfl) ?_
    exact Hs.ret (v := .tuple #[.int .u8 (t.ch 15), .bool true]) Tryz.func122 (by kernel_rfl) fun w' H => ⟨by simp only [TM.chr, TM.on, h, Bool.false_eq_true, if_false, Bool.not_false], H.only⟩
theorem char_16 (t : TM) (w : World) : Calls Tryz.prog 122 #[t.val, .int .i64 16] w fun e w' => e = .returned (.tuple #[.int .u8 (t.chr 16), .bool (t.on 16)]) ∧ Only [] w w' := by
  refine Hs.enter Tryz.func122 [] [] [] [.g t.sc, .c (.v (.int .i64 16))] (Mem.start0 w) (by kernel_rfl) (by kernel_rfl) ?_
  refine Hs.run1 300 (fun _ => by kernel_rfl) fun b0 => ?_
  refine Hs.rung0 [2] 300 (fun _ => by kernel_rfl) ?_
  refine Hs.rung0 [2, 6] 300 (fun _ => by kernel_rfl) ?_
  refine Hs.cond (t.ch 16 == 255) (by kernel_rfl) (fun h => ?_) (fun h => ?_)
  · refine Hs.run0 300 (fun _ => by kernel_rfl) ?_
    exact Hs.ret (v := .tuple #[.int .u8 0, .bool false]) Tryz.func122 (by kernel_rfl) fun w' H => ⟨by simp only [TM.chr, TM.on, h, if_true, Bool.not_true], H.only⟩
  · refine Hs.run0 300 (fun _ => by kernel_rfl) ?_
    exact Hs.ret (v := .tuple #[.int .u8 (t.ch 16), .bool true]) Tryz.func122 (by kernel_rfl) fun w' H => ⟨by simp only [TM.chr, TM.on, h, Bool.false_eq_true, if_false, Bool.not_false], H.only⟩
theorem char_17 (t : TM) (w : World) : Calls Tryz.prog 122 #[t.val, .int .i64 17] w fun e w' => e = .returned (.tuple #[.int .u8 (t.chr 17), .bool (t.on 17)]) ∧ Only [] w w' := by
  refine Hs.enter Tryz.func122 [] [] [] [.g t.sc, .c (.v (.int .i64 17))] (Mem.start0 w) (by kernel_rfl) (by kernel_rfl) ?_
  refine Hs.run1 300 (fun _ => by kernel_rfl) fun b0 => ?_
  refine Hs.rung0 [2] 300 (fun _ => by kernel_rfl) ?_
  refine Hs.rung0 [2, 6] 300 (fun _ => by kernel_rfl) ?_
  refine Hs.cond (t.ch 17 == 255) (by kernel_rfl) (fun h => ?_) (fun h => ?_)
  · refine Hs.run0 300 (fun _ => by kernel_rfl) ?_
    exact Hs.ret (v := .tuple #[.int .u8 0, .bool false]) Tryz.func122 (by kernel_rfl) fun w' H => ⟨by simp only [TM.chr, TM.on, h, if_true, Bool.not_true], H.only⟩
  · refine Hs.run0 300 (fun _ => by kernel_rfl) ?_
    exact Hs.ret (v := .tuple #[.int .u8 (t.ch 17), .bool true]) Tryz.func122 (by kernel_rfl) fun w' H => ⟨by simp only [TM.chr, TM.on, h, Bool.false_eq_true, if_false, Bool.not_false], H.only⟩
theorem char_18 (t : TM) (w : World) : Calls Tryz.prog 122 #[t.val, .int .i64 18] w fun e w' => e = .returned (.tuple #[.int .u8 (t.chr 18), .bool (t.on 18)]) ∧ Only [] w w' := by
  refine Hs.enter Tryz.func122 [] [] [] [.g t.sc, .c (.v (.int .i64 18))] (Mem.start0 w) (by kernel_rfl) (by kernel_rfl) ?_
  refine Hs.run1 300 (fun _ => by kernel_rfl) fun b0 => ?_
  refine Hs.rung0 [2] 300 (fun _ => by kernel_rfl) ?_
  refine Hs.rung0 [2, 6] 300 (fun _ => by kernel_rfl) ?_
  refine Hs.cond (t.ch 18 == 255) (by kernel_rfl) (fun h => ?_) (fun h => ?_)
  · refine Hs.run0 300 (fun _ => by kernel_rfl) ?_
    exact Hs.ret (v := .tuple #[.int .u8 0, .bool false]) Tryz.func122 (by kernel_rfl) fun w' H => ⟨by simp only [TM.chr, TM.on, h, if_true, Bool.not_true], H.only⟩
  · refine Hs.run0 300 (fun _ => by kernel_rfl) ?_
    exact Hs.ret (v := .tuple #[.int .u8 (t.ch 18), .bool true]) Tryz.func122 (by kernel_rfl) fun w' H => ⟨by simp only [TM.chr, TM.on, h, Bool.false_eq_true, if_false, Bool.not_false], H.only⟩
theorem char_any (t : TM) (op : Nat) (h1 : 1 ≤ op) (h2 : op ≤ 18) (w : World) : Calls Tryz.prog 122 #[t.val, .int .i64 op] w fun e w' => e = .returned (.tuple #[.int .u8 (t.chr op), .bool (t.on op)]) ∧ Only [] w w' := by
  have h : op = 1 ∨ op = 2 ∨ op = 3 ∨ op = 4 ∨ op = 5 ∨ op = 6 ∨ op = 7 ∨ op = 8 ∨ op = 9 ∨ op = 10 ∨ op = 11 ∨ op = 12 ∨ op = 13 ∨ op = 14 ∨ op = 15 ∨ op = 16 ∨ op = 17 ∨ op = 18 := by omega
  rcases h with rfl | rfl | rfl | rfl | rfl | rfl | rfl | rfl | rfl | rfl | rfl | rfl | rfl | rfl | rfl | rfl | rfl | rfl
  · exact char_1 t w
  · exact char_2 t w
  · exact char_3 t w
  · exact char_4 t w
  · exact char_5 t w
  · exact char_6 t w
  · exact char_7 t w
  · exact char_8 t w
  · exact char_9 t w
  · exact char_10 t w
  · exact char_11 t w
  · exact char_12 t w
  · exact char_13 t w
  · exact char_14 t w
  · exact char_15 t w
  · exact char_16 t w
  · exact char_17 t w
  · exact char_18 t w
theorem is_any (t : TM) (op : Nat) (c : Int) (h1 : 1 ≤ op) (h2 : op ≤ 18) (w : World) : Calls Tryz.prog 81 #[t.val, .int .i64 op, .int .u8 c] w fun e w' => e = .returned (.bool (t.is op c)) ∧ Only [] w w' := by
  refine Hs.enter Tryz.func81 [] [] [] [.g t.sc, .c (.v (.int .i64 op)), .c (.v (.int .u8 c))] (Mem.start0 w) (by kernel_rfl) (by kernel_rfl) ?_
  refine Hs.run1 300 (fun _ => by kernel_rfl) fun b0 => ?_
  refine Hs.callV (fun w' H => char_any t op h1 h2 w') (by kernel_rfl) ?_
  refine Hs.run0 300 (fun _ => by kernel_rfl) ?_
  refine Hs.bool 16 (t.on op) (by kernel_rfl) (fun h => ?_) (fun h => ?_)
  · refine Hs.rung0 [1] 300 (fun _ => by kernel_rfl) ?_
    exact Hs.ret (v := .bool (c == t.chr op)) Tryz.func81 (by kernel_rfl) fun w' H => ⟨by
      have e : (t.ch op == 255) = false := by simpa [TM.on] using h
      simp only [TM.is, TM.chr, h, e, Bool.true_and, Bool.false_eq_true, if_false], H.only⟩
  · refine Hs.rung0 [1] 300 (fun _ => by kernel_rfl) ?_
    exact Hs.ret (v := .bool false) Tryz.func81 (by kernel_rfl) fun w' H => ⟨by simp only [TM.is, h, Bool.false_and], H.only⟩
end Go.Proofs.YtnfcdbjckdhieaaGreat

namespace Go.Proofs.YtnfcdbjckdhieaaGreat
set_option linter.all false
set_option maxRecDepth 100000
open Go.RowKit

def lowC (t : TM) (c : Int) : Int := if t.has 33 then IntKind.u8.wrap (((BitVec.ofInt 8 c) &&& (BitVec.ofInt 8 127)).toNat) else c
def smallC (t : TM) (c : Int) : Int := if (decide (c ≥ 65) && decide (c ≤ 90)) && (t.has 37 && t.has 59) then IntKind.u8.wrap (((BitVec.ofInt 8 c) ||| (BitVec.ofInt 8 32)).toNat) else c
def endsC (t : TM) (c : Int) : Int := if c == 13 then (if t.has 35 then 0 else if t.has 36 then 10 else c) else if c == 10 then (if t.has 34 then 13 else c) else c
def endsOk (t : TM) (c : Int) : Bool := !(c == 13 && t.has 35)
theorem ihas_any (t : TM) (op : Int) (w : World) : Calls Tryz.prog 123 #[t.val, .int .i64 op] w fun e w' => e = .returned (.bool (t.has op)) ∧ Only [] w w' := by
  refine Hs.enter Tryz.func123 [] [] [] [.g t.sc, .c (.v (.int .i64 op))] (Mem.start0 w) (by kernel_rfl) (by kernel_rfl) ?_
  refine Hs.run1 300 (fun _ => by kernel_rfl) fun b0 => ?_
  refine Hs.callV (fun w' H => has_any t op w') (by kernel_rfl) ?_
  refine Hs.run0 300 (fun _ => by kernel_rfl) ?_
  exact Hs.ret (v := .bool (t.has op)) Tryz.func123 (by kernel_rfl) fun w' H => ⟨rfl, H.only⟩
theorem low_any (t : TM) (c : Int) (w : World) : Calls Tryz.prog 156 #[t.val, .int .u8 c] w fun e w' => e = .returned (.tuple #[.int .u8 (lowC t c), .bool true]) ∧ Only [] w w' := by
  refine Hs.enter Tryz.func156 [] [] [] [.g t.sc, .c (.v (.int .u8 c))] (Mem.start0 w) (by kernel_rfl) (by kernel_rfl) ?_
  refine Hs.run1 300 (fun _ => by kernel_rfl) fun b0 => ?_
  refine Hs.callV (fun w' H => ihas_any t 33 w') (by kernel_rfl) ?_
  refine Hs.run0 300 (fun _ => by kernel_rfl) ?_
  refine Hs.cond (t.has 33) (by kernel_rfl) (fun h => ?_) (fun h => ?_)
  · refine Hs.run0 300 (fun _ => by kernel_rfl) ?_
    exact Hs.ret (v := .tuple #[.int .u8 (IntKind.u8.wrap (((BitVec.ofInt 8 c) &&& (BitVec.ofInt 8 127)).toNat)), .bool true]) Tryz.func156 (by kernel_rfl) fun w' H => ⟨by simp only [lowC, h, if_true], H.only⟩
  · refine Hs.run0 300 (fun _ => by kernel_rfl) ?_
    exact Hs.ret (v := .tuple #[.int .u8 c, .bool true]) Tryz.func156 (by kernel_rfl) fun w' H => ⟨by simp only [lowC, h, Bool.false_eq_true, if_false], H.only⟩
theorem small_any (t : TM) (c : Int) (w : World) : Calls Tryz.prog 157 #[t.val, .int .u8 c] w fun e w' => e = .returned (.tuple #[.int .u8 (smallC t c), .bool true]) ∧ Only [] w w' := by
  refine Hs.enter Tryz.func157 [] [] [] [.g t.sc, .c (.v (.int .u8 c))] (Mem.start0 w) (by kernel_rfl) (by kernel_rfl) ?_
  refine Hs.run1 300 (fun _ => by kernel_rfl) fun b0 => ?_
  refine Hs.bool 8 (decide (c ≥ 65)) (by kernel_rfl) (fun h => ?_) (fun h => ?_)
  rotate_left
  · refine Hs.rung0 [2, 6] 300 (fun _ => by kernel_rfl) ?_
    refine Hs.condF (by kernel_rfl) ?_
    refine Hs.run0 300 (fun _ => by kernel_rfl) ?_
    exact Hs.ret (v := .tuple #[.int .u8 c, .bool true]) Tryz.func157 (by kernel_rfl) fun w' H => ⟨by simp only [smallC, h, Bool.and_true, Bool.true_and, Bool.false_and, Bool.and_false, Bool.false_eq_true, if_false], H.only⟩
  refine Hs.rung0 [2] 300 (fun _ => by kernel_rfl) ?_
  refine Hs.bool 12 (decide (c ≤ 90)) (by kernel_rfl) (fun h2 => ?_) (fun h2 => ?_)
  rotate_left
  · refine Hs.rung0 [2, 6] 300 (fun _ => by kernel_rfl) ?_
    refine Hs.condF (by kernel_rfl) ?_
    refine Hs.run0 300 (fun _ => by kernel_rfl) ?_
    exact Hs.ret (v := .tuple #[.int .u8 c, .bool true]) Tryz.func157 (by kernel_rfl) fun w' H => ⟨by simp only [smallC, h, h2, Bool.and_true, Bool.true_and, Bool.false_and, Bool.and_false, Bool.false_eq_true, if_false], H.only⟩
  refine Hs.rung1 [2, 6] 300 (fun _ => by kernel_rfl) fun b1 => ?_
  refine Hs.inl Tryz.func188 [.g t.sc, .c (.s 1 0 2 2)] (by kernel_rfl) (by kernel_rfl) ?_
  refine Hs.run1 300 (fun _ => by kernel_rfl) fun b2 => ?_
  refine Hs.loop (by kernel_rfl) ?_
  refine Hs.run0 300 (fun _ => by kernel_rfl) ?_
  refine Hs.condT (by kernel_rfl) ?_
  refine Hs.run0 300 (fun _ => by kernel_rfl) ?_
  refine Hs.callV (fun w' H => ihas_any t 37 w') (by kernel_rfl) ?_
  refine Hs.run0 300 (fun _ => by kernel_rfl) ?_
  refine Hs.cond (!t.has 37) (by kernel_rfl) (fun h3 => ?_) (fun h3 => ?_)
  · replace h3 : t.has 37 = false := by simpa using h3
    refine Hs.run0 300 (fun _ => by kernel_rfl) ?_
    refine Hs.retI Tryz.func188 (by kernel_rfl) (by kernel_rfl) (by kernel_rfl) ?_
    refine Hs.rung0 [2, 6] 300 (fun _ => by kernel_rfl) ?_
    refine Hs.condF (by kernel_rfl) ?_
    refine Hs.run0 300 (fun _ => by kernel_rfl) ?_
    exact Hs.ret (v := .tuple #[.int .u8 c, .bool true]) Tryz.func157 (by kernel_rfl) fun w' H => ⟨by simp only [smallC, h, h2, h3, Bool.and_true, Bool.true_and, Bool.false_and, Bool.and_false, Bool.false_eq_true, if_false], H.only⟩
  replace h3 : t.has 37 = true := by simpa using h3
  refine Hs.run0 300 (fun _ => by kernel_rfl) ?_
  refine Hs.loop (by kernel_rfl) ?_
  refine Hs.run0 300 (fun _ => by kernel_rfl) ?_
  refine Hs.condT (by kernel_rfl) ?_
  refine Hs.run0 300 (fun _ => by kernel_rfl) ?_
  refine Hs.callV (fun w' H => ihas_any t 59 w') (by kernel_rfl) ?_
  refine Hs.run0 300 (fun _ => by kernel_rfl) ?_
  refine Hs.cond (!t.has 59) (by kernel_rfl) (fun h4 => ?_) (fun h4 => ?_)
  · replace h4 : t.has 59 = false := by simpa using h4
    refine Hs.run0 300 (fun _ => by kernel_rfl) ?_
    refine Hs.retI Tryz.func188 (by kernel_rfl) (by kernel_rfl) (by kernel_rfl) ?_
    refine Hs.rung0 [2, 6] 300 (fun _ => by kernel_rfl) ?_
    refine Hs.condF (by kernel_rfl) ?_
    refine Hs.run0 300 (fun _ => by kernel_rfl) ?_
    exact Hs.ret (v := .tuple #[.int .u8 c, .bool true]) Tryz.func157 (by kernel_rfl) fun w' H => ⟨by simp only [smallC, h, h2, h3, h4, Bool.and_true, Bool.true_and, Bool.false_and, Bool.and_false, Bool.false_eq_true, if_false], H.only⟩
  replace h4 : t.has 59 = true := by simpa using h4
  refine Hs.run0 300 (fun _ => by kernel_rfl) ?_
  refine Hs.loop (by kernel_rfl) ?_
  refine Hs.run0 300 (fun _ => by kernel_rfl) ?_
  refine Hs.condF (by kernel_rfl) ?_
  refine Hs.run0 300 (fun _ => by kernel_rfl) ?_
  refine Hs.retI Tryz.func188 (by kernel_rfl) (by kernel_rfl) (by kernel_rfl) ?_
  refine Hs.rung0 [2, 6] 300 (fun _ => by kernel_rfl) ?_
  refine Hs.condT (by kernel_rfl) ?_
  refine Hs.run0 300 (fun _ => by kernel_rfl) ?_
  exact Hs.ret (v := .tuple #[.int .u8 (IntKind.u8.wrap (((BitVec.ofInt 8 c) ||| (BitVec.ofInt 8 32)).toNat)), .bool true]) Tryz.func157 (by kernel_rfl) fun w' H => ⟨by simp only [smallC, h, h2, h3, h4, Bool.and_true, if_true], H.only⟩
theorem ends_any (t : TM) (c : Int) (w : World) : Calls Tryz.prog 158 #[t.val, .int .u8 c] w fun e w' => e = .returned (.tuple #[.int .u8 (endsC t c), .bool (endsOk t c)]) ∧ Only [] w w' := by
  refine Hs.enter Tryz.func158 [] [] [] [.g t.sc, .c (.v (.int .u8 c))] (Mem.start0 w) (by kernel_rfl) (by kernel_rfl) ?_
  refine Hs.run1 300 (fun _ => by kernel_rfl) fun b0 => ?_
  refine Hs.cond (c == 13) (by kernel_rfl) (fun h => ?_) (fun h => ?_)
  · refine Hs.run0 300 (fun _ => by kernel_rfl) ?_
    refine Hs.callV (fun w' H => ihas_any t 35 w') (by kernel_rfl) ?_
    refine Hs.run0 300 (fun _ => by kernel_rfl) ?_
    refine Hs.cond (t.has 35) (by kernel_rfl) (fun h3 => ?_) (fun h3 => ?_)
    · refine Hs.run0 300 (fun _ => by kernel_rfl) ?_
      exact Hs.ret (v := .tuple #[.int .u8 0, .bool false]) Tryz.func158 (by kernel_rfl) fun w' H => ⟨by simp only [endsC, endsOk, h, h3, if_true, Bool.and_true, Bool.not_true], H.only⟩
    · refine Hs.run0 300 (fun _ => by kernel_rfl) ?_
      refine Hs.callV (fun w' H => ihas_any t 36 w') (by kernel_rfl) ?_
      refine Hs.run0 300 (fun _ => by kernel_rfl) ?_
      refine Hs.cond (t.has 36) (by kernel_rfl) (fun h4 => ?_) (fun h4 => ?_)
      · refine Hs.run0 300 (fun _ => by kernel_rfl) ?_
        exact Hs.ret (v := .tuple #[.int .u8 10, .bool true]) Tryz.func158 (by kernel_rfl) fun w' H => ⟨by simp only [endsC, endsOk, h, h3, h4, if_true, Bool.false_eq_true, if_false, Bool.and_false, Bool.not_false], H.only⟩
      · refine Hs.run0 300 (fun _ => by kernel_rfl) ?_
        exact Hs.ret (v := .tuple #[.int .u8 c, .bool true]) Tryz.func158 (by kernel_rfl) fun w' H => ⟨by simp only [endsC, endsOk, h, h3, h4, if_true, Bool.false_eq_true, if_false, Bool.and_false, Bool.not_false], H.only⟩
  · refine Hs.run0 300 (fun _ => by kernel_rfl) ?_
    refine Hs.cond (c == 10) (by kernel_rfl) (fun h2 => ?_) (fun h2 => ?_)
    · refine Hs.run0 300 (fun _ => by kernel_rfl) ?_
      refine Hs.callV (fun w' H => ihas_any t 34 w') (by kernel_rfl) ?_
      refine Hs.run0 300 (fun _ => by kernel_rfl) ?_
      refine Hs.cond (t.has 34) (by kernel_rfl) (fun h3 => ?_) (fun h3 => ?_)
      · refine Hs.run0 300 (fun _ => by kernel_rfl) ?_
        exact Hs.ret (v := .tuple #[.int .u8 13, .bool true]) Tryz.func158 (by kernel_rfl) fun w' H => ⟨by simp only [endsC, endsOk, h, h2, h3, if_true, Bool.false_eq_true, if_false, Bool.false_and, Bool.not_false], H.only⟩
      · refine Hs.run0 300 (fun _ => by kernel_rfl) ?_
        exact Hs.ret (v := .tuple #[.int .u8 c, .bool true]) Tryz.func158 (by kernel_rfl) fun w' H => ⟨by simp only [endsC, endsOk, h, h2, h3, if_true, Bool.false_eq_true, if_false, Bool.false_and, Bool.not_false], H.only⟩
    · refine Hs.run0 300 (fun _ => by kernel_rfl) ?_
      exact Hs.ret (v := .tuple #[.int .u8 c, .bool true]) Tryz.func158 (by kernel_rfl) fun w' H => ⟨by simp only [endsC, endsOk, h, h2, Bool.false_eq_true, if_false, Bool.false_and, Bool.not_false], H.only⟩
theorem steps_any (w : World) : Calls Tryz.prog 118 #[] w fun e w' => e = .returned (.agg #[.func (.func 156) #[] #[], .func (.func 157) #[] #[], .func (.func 158) #[] #[]]) ∧ Only [] w w' := by
  refine Hs.enter Tryz.func118 [] [] [] [] (Mem.start0 w) (by kernel_rfl) (by kernel_rfl) ?_
  refine Hs.run1 300 (fun _ => by kernel_rfl) fun b0 => ?_
  exact Hs.ret (v := .agg #[.func (.func 156) #[] #[], .func (.func 157) #[] #[], .func (.func 158) #[] #[]]) Tryz.func118 (by kernel_rfl) fun w' H => ⟨rfl, H.only⟩
def stripC (t : TM) (c : Int) : Int := smallC t (lowC t c)
def through23D := endsC
def through03D (t : TM) (c : Int) : Int := endsC t (stripC t c)
theorem ends_no {t : TM} {c : Int} (h : endsOk t c = false) : endsC t c = 0 := by
  unfold endsOk at h
  unfold endsC
  have h : (c == 13 && t.has 35) = true := by simpa using h
  rw [Bool.and_eq_true] at h
  rw [if_pos h.1, if_pos h.2]
theorem through02_any (t : TM) (c : Int) (w : World) : Calls Tryz.prog 77 #[t.val, .int .u8 c, .int .i64 0, .int .i64 2] w fun e w' => e = .returned (.tuple #[.int .u8 (stripC t c), .bool true]) ∧ Only [] w w' := by
  refine Hs.enter Tryz.func77 [] [] [] [.g t.sc, .c (.v (.int .u8 c)), .c (.v (.int .i64 0)), .c (.v (.int .i64 2))] (Mem.start0 w) (by kernel_rfl) (by kernel_rfl) ?_
  refine Hs.run1 300 (fun _ => by kernel_rfl) fun b0 => ?_
  refine Hs.callV (fun w' H => steps_any w') (by kernel_rfl) ?_
  refine Hs.run1 300 (fun _ => by kernel_rfl) fun b1 => ?_
  refine Hs.pure (.c (.s 1 0 2 3)) (by kernel_rfl) (by kernel_rfl) ?_
  refine Hs.run0 300 (fun _ => by kernel_rfl) ?_
  refine Hs.loop (by kernel_rfl) ?_
  refine Hs.run0 300 (fun _ => by kernel_rfl) ?_
  refine Hs.condT (by kernel_rfl) ?_
  refine Hs.run0 300 (fun _ => by kernel_rfl) ?_
  refine Hs.callV (fun w' H => low_any t (c) w') (by kernel_rfl) ?_
  refine Hs.run0 300 (fun _ => by kernel_rfl) ?_
  refine Hs.condF (by kernel_rfl) ?_
  refine Hs.run0 300 (fun _ => by kernel_rfl) ?_
  refine Hs.loop (by kernel_rfl) ?_
  refine Hs.run0 300 (fun _ => by kernel_rfl) ?_
  refine Hs.condT (by kernel_rfl) ?_
  refine Hs.run0 300 (fun _ => by kernel_rfl) ?_
  refine Hs.callV (fun w' H => small_any t (lowC t (c)) w') (by kernel_rfl) ?_
  refine Hs.run0 300 (fun _ => by kernel_rfl) ?_
  refine Hs.condF (by kernel_rfl) ?_
  refine Hs.run0 300 (fun _ => by kernel_rfl) ?_
  refine Hs.loop (by kernel_rfl) ?_
  refine Hs.run0 300 (fun _ => by kernel_rfl) ?_
  refine Hs.condF (by kernel_rfl) ?_
  refine Hs.run0 300 (fun _ => by kernel_rfl) ?_
  exact Hs.ret (v := .tuple #[.int .u8 (smallC t (lowC t (c))), .bool true]) Tryz.func77 (by kernel_rfl) fun w' H => ⟨rfl, H.only⟩
theorem through23_any (t : TM) (c : Int) (w : World) : Calls Tryz.prog 77 #[t.val, .int .u8 c, .int .i64 2, .int .i64 3] w fun e w' => e = .returned (.tuple #[.int .u8 (through23D t c), .bool (endsOk t c)]) ∧ Only [] w w' := by
  refine Hs.enter Tryz.func77 [] [] [] [.g t.sc, .c (.v (.int .u8 c)), .c (.v (.int .i64 2)), .c (.v (.int .i64 3))] (Mem.start0 w) (by kernel_rfl) (by kernel_rfl) ?_
  refine Hs.run1 300 (fun _ => by kernel_rfl) fun b0 => ?_
  refine Hs.callV (fun w' H => steps_any w') (by kernel_rfl) ?_
  refine Hs.run1 300 (fun _ => by kernel_rfl) fun b1 => ?_
  refine Hs.pure (.c (.s 1 2 1 1)) (by kernel_rfl) (by kernel_rfl) ?_
  refine Hs.run0 300 (fun _ => by kernel_rfl) ?_
  refine Hs.loop (by kernel_rfl) ?_
  refine Hs.run0 300 (fun _ => by kernel_rfl) ?_
  refine Hs.condT (by kernel_rfl) ?_
  refine Hs.run0 300 (fun _ => by kernel_rfl) ?_
  refine Hs.callV (fun w' H => ends_any t (c) w') (by kernel_rfl) ?_
  refine Hs.run0 300 (fun _ => by kernel_rfl) ?_
  refine Hs.cond (!endsOk t (c)) (by kernel_rfl) (fun h => ?_) (fun h => ?_)
  · refine Hs.run0 300 (fun _ => by kernel_rfl) ?_
    exact Hs.ret (v := .tuple #[.int .u8 0, .bool false]) Tryz.func77 (by kernel_rfl) fun w' H => ⟨by
      have h0 : endsOk t (c) = false := by simpa using h
      have h1 := ends_no h0
      simp only [through23D, h0, h1], H.only⟩
  have h0 : endsOk t (c) = true := by simpa using h
  refine Hs.run0 300 (fun _ => by kernel_rfl) ?_
  refine Hs.loop (by kernel_rfl) ?_
  refine Hs.run0 300 (fun _ => by kernel_rfl) ?_
  refine Hs.condF (by kernel_rfl) ?_
  refine Hs.run0 300 (fun _ => by kernel_rfl) ?_
  exact Hs.ret (v := .tuple #[.int .u8 (endsC t (c)), .bool true]) Tryz.func77 (by kernel_rfl) fun w' H => ⟨by simp only [through23D, h0], H.only⟩
theorem through03_any (t : TM) (c : Int) (w : World) : Calls Tryz.prog 77 #[t.val, .int .u8 c, .int .i64 0, .int .i64 3] w fun e w' => e = .returned (.tuple #[.int .u8 (endsC t (stripC t c)), .bool (endsOk t (stripC t c))]) ∧ Only [] w w' := by
  refine Hs.enter Tryz.func77 [] [] [] [.g t.sc, .c (.v (.int .u8 c)), .c (.v (.int .i64 0)), .c (.v (.int .i64 3))] (Mem.start0 w) (by kernel_rfl) (by kernel_rfl) ?_
  refine Hs.run1 300 (fun _ => by kernel_rfl) fun b0 => ?_
  refine Hs.callV (fun w' H => steps_any w') (by kernel_rfl) ?_
  refine Hs.run1 300 (fun _ => by kernel_rfl) fun b1 => ?_
  refine Hs.pure (.c (.s 1 0 3 3)) (by kernel_rfl) (by kernel_rfl) ?_
  refine Hs.run0 300 (fun _ => by kernel_rfl) ?_
  refine Hs.loop (by kernel_rfl) ?_
  refine Hs.run0 300 (fun _ => by kernel_rfl) ?_
  refine Hs.condT (by kernel_rfl) ?_
  refine Hs.run0 300 (fun _ => by kernel_rfl) ?_
  refine Hs.callV (fun w' H => low_any t (c) w') (by kernel_rfl) ?_
  refine Hs.run0 300 (fun _ => by kernel_rfl) ?_
  refine Hs.condF (by kernel_rfl) ?_
  refine Hs.run0 300 (fun _ => by kernel_rfl) ?_
  refine Hs.loop (by kernel_rfl) ?_
  refine Hs.run0 300 (fun _ => by kernel_rfl) ?_
  refine Hs.condT (by kernel_rfl) ?_
  refine Hs.run0 300 (fun _ => by kernel_rfl) ?_
  refine Hs.callV (fun w' H => small_any t (lowC t (c)) w') (by kernel_rfl) ?_
  refine Hs.run0 300 (fun _ => by kernel_rfl) ?_
  refine Hs.condF (by kernel_rfl) ?_
  refine Hs.run0 300 (fun _ => by kernel_rfl) ?_
  refine Hs.loop (by kernel_rfl) ?_
  refine Hs.run0 300 (fun _ => by kernel_rfl) ?_
  refine Hs.condT (by kernel_rfl) ?_
  refine Hs.run0 300 (fun _ => by kernel_rfl) ?_
  refine Hs.callV (fun w' H => ends_any t (smallC t (lowC t (c))) w') (by kernel_rfl) ?_
  refine Hs.run0 300 (fun _ => by kernel_rfl) ?_
  refine Hs.cond (!endsOk t (smallC t (lowC t (c)))) (by kernel_rfl) (fun h => ?_) (fun h => ?_)
  · refine Hs.run0 300 (fun _ => by kernel_rfl) ?_
    exact Hs.ret (v := .tuple #[.int .u8 0, .bool false]) Tryz.func77 (by kernel_rfl) fun w' H => ⟨by
      have h0 : endsOk t (smallC t (lowC t (c))) = false := by simpa using h
      have h1 := ends_no h0
      simp only [stripC, h0, h1], H.only⟩
  have h0 : endsOk t (smallC t (lowC t (c))) = true := by simpa using h
  refine Hs.run0 300 (fun _ => by kernel_rfl) ?_
  refine Hs.loop (by kernel_rfl) ?_
  refine Hs.run0 300 (fun _ => by kernel_rfl) ?_
  refine Hs.condF (by kernel_rfl) ?_
  refine Hs.run0 300 (fun _ => by kernel_rfl) ?_
  exact Hs.ret (v := .tuple #[.int .u8 (endsC t (smallC t (lowC t (c)))), .bool true]) Tryz.func77 (by kernel_rfl) fun w' H => ⟨by simp only [stripC, h0], H.only⟩
theorem strip_any (t : TM) (c : Int) (w : World) : Calls Tryz.prog 40 #[t.val, .int .u8 c] w fun e w' => e = .returned (.int .u8 (stripC t c)) ∧ Only [] w w' := by
  refine Hs.enter Tryz.func40 [] [] [] [.g t.sc, .c (.v (.int .u8 c))] (Mem.start0 w) (by kernel_rfl) (by kernel_rfl) ?_
  refine Hs.run1 300 (fun _ => by kernel_rfl) fun b0 => ?_
  refine Hs.callV (fun w' H => through02_any t c w') (by kernel_rfl) ?_
  refine Hs.run0 300 (fun _ => by kernel_rfl) ?_
  exact Hs.ret (v := .int .u8 (stripC t c)) Tryz.func40 (by kernel_rfl) fun w' H => ⟨rfl, H.only⟩
theorem turn_any (t : TM) (c : Int) (w : World) : Calls Tryz.prog 45 #[t.val, .int .u8 c] w fun e w' => e = .returned (.tuple #[.int .u8 (endsC t c), .bool (endsOk t c)]) ∧ Only [] w w' := by
  refine Hs.enter Tryz.func45 [] [] [] [.g t.sc, .c (.v (.int .u8 c))] (Mem.start0 w) (by kernel_rfl) (by kernel_rfl) ?_
  refine Hs.run1 300 (fun _ => by kernel_rfl) fun b0 => ?_
  refine Hs.callV (fun w' H => through23_any t c w') (by kernel_rfl) ?_
  refine Hs.run0 300 (fun _ => by kernel_rfl) ?_
  exact Hs.ret (v := .tuple #[.int .u8 (endsC t c), .bool (endsOk t c)]) Tryz.func45 (by kernel_rfl) fun w' H => ⟨rfl, H.only⟩
end Go.Proofs.YtnfcdbjckdhieaaGreat

namespace Go.Proofs.YtnfcdbjckdhieaaGreat
set_option linter.all false
set_option maxRecDepth 100000
open Go.RowKit

def cu8 (x : Int) : List Value := [.int .u8 x]
theorem cu8_len (x : Int) : (cu8 x).length = 1 := rfl
theorem cu8_one (x : Int) : ∀ u ∈ cu8 x, u.oneCell' = true := by
  intro u hu
  simp only [cu8, List.mem_singleton] at hu
  subst hu; rfl
theorem elemU8 : ElemT Tryz.prog 27 5 1 (Tryz.prog.bytesOf 5) := elemT_of (z := .int .u8 0) (by kernel_rfl) (by kernel_rfl) (by decide) (by decide)
theorem by_u8 : Tryz.prog.bytesOf 5 = 1 := by kernel_rfl
theorem u8_cell {w : World} {b off i : Nat} {l : List Int} {x : Int} (hr : RdX cu8 w (some ⟨b, off, none⟩) l) (hx : l[i]? = some x) : w.cell? ⟨b, off + i * 1, none⟩ = some (.int .u8 x) := by
  have := rdX_cell cu8_len hr hx (j := 0) (v := .int .u8 x) rfl
  exact this
def withinC (col : Int) : Int := if decide (col < 0) || decide (col > 65535) then 0 else col
theorem within_any (col : Int) (w : World) : Calls Tryz.prog 97 #[.int .i64 col] w fun e w' => e = .returned (.int .i64 (withinC col)) ∧ Only [] w w' := by
  refine Hs.enter Tryz.func97 [] [] [] [.c (.v (.int .i64 col))] (Mem.start0 w) (by kernel_rfl) (by kernel_rfl) ?_
  refine Hs.run0 300 (fun _ => by kernel_rfl) ?_
  refine Hs.bool 5 (decide (col < 0)) (by kernel_rfl) (fun h => ?_) (fun h => ?_)
  · refine Hs.rung0 [2] 300 (fun _ => by kernel_rfl) ?_
    refine Hs.condT (by kernel_rfl) ?_
    refine Hs.run0 300 (fun _ => by kernel_rfl) ?_
    exact Hs.ret (v := .int .i64 0) Tryz.func97 (by kernel_rfl) fun w' H => ⟨by simp only [withinC, h, Bool.true_or, if_true], H.only⟩
  · refine Hs.rung0 [2] 300 (fun _ => by kernel_rfl) ?_
    refine Hs.cond (decide (col > 65535)) (by kernel_rfl) (fun h2 => ?_) (fun h2 => ?_)
    · refine Hs.run0 300 (fun _ => by kernel_rfl) ?_
      exact Hs.ret (v := .int .i64 0) Tryz.func97 (by kernel_rfl) fun w' H => ⟨by simp only [withinC, h, h2, Bool.or_true, if_true], H.only⟩
    · refine Hs.run0 300 (fun _ => by kernel_rfl) ?_
      exact Hs.ret (v := .int .i64 col) Tryz.func97 (by kernel_rfl) fun w' H => ⟨by simp only [withinC, h, h2, Bool.or_false, Bool.false_eq_true, if_false], H.only⟩
def penSC (t : TM) (col : Int) (A : Option Addr) (n cap : Nat) : List SC := t.sc ++ [.v (.int .i64 col), .v (.slice A n cap)]
def penV (t : TM) (col : Int) (A : Option Addr) (n cap : Nat) : List Value := t.cells ++ [.int .i64 col, .slice A n cap]
theorem penD {β : List Nat} (t : TM) (col : Int) (A : Option Addr) (n cap : Nat) : dens β (penSC t col A n cap) = penV t col A n cap := rfl
/-- A pen, and what it has written. -/
structure PenAt (w : World) (g : Nat) (t : TM) (col : Int) (A : Option Addr) (n cap : Nat) (out : List Int) : Prop where
  blk : Blk w g 175 (penV t col A n cap)
  own : OwnX cu8 5 1 w 0 (.slice A n cap) out
  len : out.length = n
  ne : ∀ x, Value.ownBlock (.slice A n cap) = some x → x ≠ g
def PenPost (w : World) (g : Nat) (t : TM) (A : Option Addr) (n cap : Nat) (col : Int) (out : List Int) (n' : Nat) (v : Value) : Ending → World → Prop := fun e w' =>
  ∃ A' cap', e = .returned v ∧ Only (g :: (Value.ownBlock (.slice A n cap)).toList) w w' ∧ Blk w' g 175 (penV t col A' n' cap') ∧ OwnX cu8 5 1 w' 0 (.slice A' n' cap') out ∧ WhereG (.slice A n cap) (.slice A' n' cap') w.heap.size
theorem PenAt.mem {w : World} {g : Nat} {t : TM} {col : Int} {A : Option Addr} {n cap : Nat} {out : List Int} (h : PenAt w g t col A n cap out) : Mem w (g :: (Value.ownBlock (.slice A n cap)).toList) [g, 0] [.b true 175 (penSC t col A n cap), .s A cap n 5 1 (out.flatMap cu8)] w := by
  have hA : ∀ x, HB.blk 0 (.s A cap n 5 1 (out.flatMap cu8)) = some x → Value.ownBlock (.slice A n cap) = some x := fun x hx => by
    cases A with
    | none => cases hx
    | some a => simpa [Value.ownBlock, HB.blk] using hx
  refine Mem.start _ _ _ _ rfl (fun k b hk => ?_) (fun k b x hk _ hx => ?_) (fun i j hi hj x ei ej li lj => ?_)
  · match k, hk with
    | 0, hk => injection hk with hk; subst hk; exact h.blk
    | 1, hk =>
      injection hk with hk; subst hk
      have h5 := h.own
      unfold OwnX at h5
      rw [h.len] at h5
      exact h5
  · match k, hk with
    | 0, hk => injection hk with hk; subst hk; injection hx with hx; subst hx; simp [nm]
    | 1, hk => injection hk with hk; subst hk; exact List.mem_cons_of_mem _ (Option.mem_toList.2 (hA x hx))
  · match i, j, ei, ej with
    | 0, 0, _, _ => rfl
    | 1, 1, _, _ => rfl
    | 0, 1, ei, ej =>
      injection ei with ei; subst ei; injection ej with ej; subst ej
      injection li with li
      exact absurd li.symm (h.ne x (hA x lj))
    | 1, 0, ei, ej =>
      injection ei with ei; subst ei; injection ej with ej; subst ej
      injection lj with lj
      exact absurd lj.symm (h.ne x (hA x li))
theorem PenPost.of {w w' : World} {g : Nat} {t : TM} {A A' : Option Addr} {n cap n' cap' : Nat} {col : Int} {out : List Int} {v : Value} {β : List Nat} {hp : List HB} (H : Mem w (g :: (Value.ownBlock (.slice A n cap)).toList) β hp w') (hβ : β[0]? = some g) (h0 : hp[0]? = some (.b true 175 (penSC t col A' n' cap'))) (h1 : hp[1]? = some (.s A' cap' n' 5 1 (out.flatMap cu8))) (hl : out.length = n') : PenPost w g t A n cap col out n' v (.returned v) w' := by
  have hg := nm_get hβ
  refine ⟨A', cap', rfl, H.only, ?_, H.ownX 1 hl h1, fun x hx => ?_⟩
  · have := H.at 0 h0
    rw [hg] at this
    exact this
  · have hx' : HB.blk (nm β 1) (.s A' cap' n' 5 1 (out.flatMap cu8)) = some x := by
      cases A' with
      | none => cases hx
      | some a => simpa [Value.ownBlock, HB.blk] using hx
    rcases H.own 1 _ x h1 rfl hx' with h | h
    · rcases List.mem_cons.1 h with h | h
      · exact absurd (H.inj 0 1 _ _ x h0 h1 (by rw [hg, h]; rfl) hx') (by decide)
      · exact .inl (Option.mem_toList.1 h)
    · exact .inr h
theorem phas_any (t : TM) (op col : Int) (A : Option Addr) (n cap g : Nat) (w : World) (h : Blk w g 175 (penV t col A n cap)) : Calls Tryz.prog 132 #[.pointer (some ⟨g, 0, none⟩), .int .i64 op] w fun e w' => e = .returned (.bool (t.has op)) ∧ Only [] w w' := by
  refine Hs.enter Tryz.func132 [] [g] [.b false 175 (penSC t col A n cap)] [.c (.p 0 0), .c (.v (.int .i64 op))] (Mem.rdB1 w g h) (by kernel_rfl) (by kernel_rfl) ?_
  refine Hs.run0 300 (fun _ => by kernel_rfl) ?_
  refine Hs.callV (fun w' H => has_any t op w') (by kernel_rfl) ?_
  refine Hs.run0 300 (fun _ => by kernel_rfl) ?_
  exact Hs.ret (v := .bool (t.has op)) Tryz.func132 (by kernel_rfl) fun w' H => ⟨rfl, H.only⟩
/-- Most bytes that are looked at. -/
def Most (n : Nat) : Prop := n ≤ 1000000
def utfC (c : Int) : Bool := IntKind.u8.wrap (((BitVec.ofInt 8 c) &&& (BitVec.ofInt 8 192)).toNat) == 128
def colC (t : TM) (col c : Int) : Int := if c == 9 then withinC (col - col.tmod 8 + 8) else if c == 8 then (if col - 1 > 0 then col - 1 else 0) else if c == 13 then 0 else if decide (c < 32) || (c == 127 || (utfC c && t.has 42)) then col else withinC (col + 1)
theorem put_any (t : TM) (col c : Int) (A : Option Addr) (n cap g : Nat) (out : List Int) (w : World) (h : PenAt w g t col A n cap out) (hc : 0 ≤ col ∧ col ≤ 65535) (hn : n ≤ 2000000) : Calls Tryz.prog 133 #[.pointer (some ⟨g, 0, none⟩), .int .u8 c] w (PenPost w g t A n cap (colC t col c) (out ++ [c]) (n + 1) (.tuple #[])) := by
  have hlen := h.len
  have hm : n + 1 ≤ maxLen := by unfold maxLen; omega
  refine Hs.enter Tryz.func133 (g :: (Value.ownBlock (.slice A n cap)).toList) [g, 0] [.b true 175 (penSC t col A n cap), .s A cap n 5 1 (out.flatMap cu8)] [.c (.p 0 0), .c (.v (.int .u8 c))] h.mem (by kernel_rfl) (by kernel_rfl) ?_
  refine Hs.run1 300 (fun _ => by kernel_rfl) fun b2 => ?_
  refine Hs.app (c := 1) (ty := 27) 1 elemU8 out [c] n 1 hlen rfl cu8_one cu8_len (A := A) (B := some ⟨b2, 0, none⟩) (cap := cap) (by kernel_rfl) (by kernel_rfl) (by kernel_rfl) (fun w' H => H.rdB (gs := [c]) 2 (wr := true) (T := 5) (cs := [.v (.int .u8 c)]) (by kernel_rfl) rfl) hm (by rw [by_u8]; omega) fun A3 c3 h3 => ?_
  refine Hs.run0 300 (fun _ => by kernel_rfl) ?_
  have e8 : col.tmod 8 = col % 8 := Int.tmod_eq_emod_of_nonneg hc.1
  have e9 : IntKind.i64.wrap (IntKind.i64.wrap (col - col.tmod 8) + 8) = col - col.tmod 8 + 8 := by
    rw [e8, IntWalk.i64_in (col - col % 8) (by omega), IntWalk.i64_in _ (by omega)]
  have e1 : IntKind.i64.wrap (col + 1) = col + 1 := IntWalk.i64_in _ (by omega)
  have em : IntKind.i64.wrap (col - 1) = col - 1 := IntWalk.i64_in _ (by omega)
  refine Hs.cond (c == 9) (by kernel_rfl) (fun h1 => ?_) (fun h1 => ?_)
  · refine Hs.run0 300 (fun _ => by kernel_rfl) ?_
    refine Hs.any [0, 1015] (by kernel_rfl) ?_
    refine Hs.run0 300 (fun _ => by kernel_rfl) ?_
    refine Hs.callV (fun w' H => within_any (IntKind.i64.wrap (IntKind.i64.wrap (col - col.tmod 8) + 8)) w') (by kernel_rfl) ?_
    refine Hs.run0 300 (fun _ => by kernel_rfl) ?_
    have ec : colC t col c = withinC (IntKind.i64.wrap (IntKind.i64.wrap (col - col.tmod 8) + 8)) := by
      simp only [colC, h1, if_true, e9]
    rw [ec]
    exact Hs.ret (v := .tuple #[]) Tryz.func133 (by kernel_rfl) fun w' H => PenPost.of (A' := A3) (cap' := c3) H rfl (by kernel_rfl) (by kernel_rfl) (by simp [hlen])
  refine Hs.run0 300 (fun _ => by kernel_rfl) ?_
  refine Hs.cond (c == 8) (by kernel_rfl) (fun h2 => ?_) (fun h2 => ?_)
  · refine Hs.run0 300 (fun _ => by kernel_rfl) ?_
    have ec : colC t col c = (if IntKind.i64.wrap (col - 1) > 0 then IntKind.i64.wrap (col - 1) else 0) := by
      simp only [colC, h1, h2, Bool.false_eq_true, if_false, if_true, em]
    rw [ec]
    exact Hs.ret (v := .tuple #[]) Tryz.func133 (by kernel_rfl) fun w' H => PenPost.of (A' := A3) (cap' := c3) H rfl (by kernel_rfl) (by kernel_rfl) (by simp [hlen])
  refine Hs.run0 300 (fun _ => by kernel_rfl) ?_
  refine Hs.cond (c == 13) (by kernel_rfl) (fun h3 => ?_) (fun h3 => ?_)
  · refine Hs.run0 300 (fun _ => by kernel_rfl) ?_
    have ec : colC t col c = 0 := by
      simp only [colC, h1, h2, h3, Bool.false_eq_true, if_false, if_true]
    rw [ec]
    exact Hs.ret (v := .tuple #[]) Tryz.func133 (by kernel_rfl) fun w' H => PenPost.of (A' := A3) (cap' := c3) H rfl (by kernel_rfl) (by kernel_rfl) (by simp [hlen])
  refine Hs.run0 300 (fun _ => by kernel_rfl) ?_
  refine Hs.cond (decide (c < 32)) (by kernel_rfl) (fun h4 => ?_) (fun h4 => ?_)
  · refine Hs.run0 300 (fun _ => by kernel_rfl) ?_
    refine Hs.cond (decide (c < 32)) (by kernel_rfl) (fun _ => ?_) (fun hx => absurd (h4.symm.trans hx) (by decide))
    refine Hs.run0 300 (fun _ => by kernel_rfl) ?_
    have ec : colC t col c = col := by
      simp only [colC, h1, h2, h3, h4, Bool.false_eq_true, if_false, if_true, Bool.true_or]
    rw [ec]
    exact Hs.ret (v := .tuple #[]) Tryz.func133 (by kernel_rfl) fun w' H => PenPost.of (A' := A3) (cap' := c3) H rfl (by kernel_rfl) (by kernel_rfl) (by simp [hlen])
  refine Hs.run0 300 (fun _ => by kernel_rfl) ?_
  refine Hs.cond (c == 127) (by kernel_rfl) (fun h5 => ?_) (fun h5 => ?_)
  · refine Hs.run0 300 (fun _ => by kernel_rfl) ?_
    refine Hs.cond (c == 127) (by kernel_rfl) (fun _ => ?_) (fun hx => absurd (h5.symm.trans hx) (by decide))
    refine Hs.run0 300 (fun _ => by kernel_rfl) ?_
    have ec : colC t col c = col := by
      simp only [colC, h1, h2, h3, h4, h5, Bool.false_eq_true, if_false, if_true, Bool.true_or, Bool.or_true]
    rw [ec]
    exact Hs.ret (v := .tuple #[]) Tryz.func133 (by kernel_rfl) fun w' H => PenPost.of (A' := A3) (cap' := c3) H rfl (by kernel_rfl) (by kernel_rfl) (by simp [hlen])
  refine Hs.run0 300 (fun _ => by kernel_rfl) ?_
  refine Hs.bool 67 (utfC c) (by kernel_rfl) (fun h6 => ?_) (fun h6 => ?_)
  · refine Hs.rung0 [3] 300 (fun _ => by kernel_rfl) ?_
    refine Hs.callV (fun w' H => phas_any t 42 col A3 (n + 1) c3 g w' (show Blk w' g 175 (penV t col A3 (n + 1) c3) from H.at 0 (wr := true) (T := 175) (cs := penSC t col A3 (n + 1) c3) (by kernel_rfl))) (by kernel_rfl) ?_
    refine Hs.rung0 [3] 300 (fun _ => by kernel_rfl) ?_
    refine Hs.cond (t.has 42) (by kernel_rfl) (fun h7 => ?_) (fun h7 => ?_)
    · refine Hs.run0 300 (fun _ => by kernel_rfl) ?_
      refine Hs.run0 300 (fun _ => by kernel_rfl) ?_
      have ec : colC t col c = col := by
        simp only [colC, h1, h2, h3, h4, h5, h6, h7, Bool.false_eq_true, if_false, if_true, Bool.true_or, Bool.or_true, Bool.and_true]
      rw [ec]
      exact Hs.ret (v := .tuple #[]) Tryz.func133 (by kernel_rfl) fun w' H => PenPost.of (A' := A3) (cap' := c3) H rfl (by kernel_rfl) (by kernel_rfl) (by simp [hlen])
    · refine Hs.run0 300 (fun _ => by kernel_rfl) ?_
      refine Hs.callV (fun w' H => within_any (IntKind.i64.wrap (col + 1)) w') (by kernel_rfl) ?_
      refine Hs.run0 300 (fun _ => by kernel_rfl) ?_
      have ec : colC t col c = withinC (IntKind.i64.wrap (col + 1)) := by
        simp only [colC, h1, h2, h3, h4, h5, h6, h7, Bool.false_eq_true, if_false, Bool.or_false, Bool.and_false, e1]
      rw [ec]
      exact Hs.ret (v := .tuple #[]) Tryz.func133 (by kernel_rfl) fun w' H => PenPost.of (A' := A3) (cap' := c3) H rfl (by kernel_rfl) (by kernel_rfl) (by simp [hlen])
  · refine Hs.rung0 [3] 300 (fun _ => by kernel_rfl) ?_
    refine Hs.condF (by kernel_rfl) ?_
    refine Hs.run0 300 (fun _ => by kernel_rfl) ?_
    refine Hs.callV (fun w' H => within_any (IntKind.i64.wrap (col + 1)) w') (by kernel_rfl) ?_
    refine Hs.run0 300 (fun _ => by kernel_rfl) ?_
    have ec : colC t col c = withinC (IntKind.i64.wrap (col + 1)) := by
      simp only [colC, h1, h2, h3, h4, h5, h6, Bool.false_eq_true, if_false, Bool.or_false, Bool.and_false, Bool.false_and, e1]
    rw [ec]
    exact Hs.ret (v := .tuple #[]) Tryz.func133 (by kernel_rfl) fun w' H => PenPost.of (A' := A3) (cap' := c3) H rfl (by kernel_rfl) (by kernel_rfl) (by simp [hlen])
end Go.Proofs.YtnfcdbjckdhieaaGreat

namespace Go.Proofs.YtnfcdbjckdhieaaGreat
set_option linter.all false
set_option maxRecDepth 100000
open Go.RowKit

section
variable {w w0 w1 w2 w' : World} {L L1 L' β : List Nat} {hp : List HB} {Q D1 D2 : World → Prop} {g : Nat}
theorem Nx.moveD (C : Nx w w1 L1 D1) (H : Mem w1 L1 β hp w2) (O : Only [g] w2 w') (T : Turns w2 w' g D1 D2) (hg : g ∈ wrN β hp) : Nx w w' (wrN β hp) D2 := by
  have hO := H.only
  have key := Nx.key H
  refine ⟨fun w3 O3 => C.back w3 ?_, fun x hx => ?_, Nat.le_trans C.size (Nat.le_trans hO.size O.size), fun L hL => ?_⟩
  · exact (hO.trans O (fun x hx => by rw [List.mem_singleton.1 hx]; exact key g hg)).trans O3 key
  · rcases key x hx with h | h
    · exact C.mem x h
    · have := C.size; omega
  · refine T _ (fun x hx => ?_) (by simp [hg]) ?_
    · rcases List.mem_append.1 hx with h | h
      · have := hL x h; have := C.size; have := hO.size; omega
      · exact H.wrN_lt x h
    · exact (C.keep L hL).goN hO (fun x hx => .inl (by simp [hx])) (fun x hx => by
        rcases List.mem_append.1 hx with h | h
        · exact .inl (by simp [h])
        · rcases key x h with h | h
          · exact .inl (by simp [h])
          · exact .inr h)
end
section
variable {P : Program} {f : FuncId} {R : Ending → World → Prop} {n : Nat} {w0 w00 : World} {L : List Nat} {β : List Nat} {m : SM} {D1 : World → Prop}
/-- A call that turns a block that the call itself has made. -/
theorem Hs.callND {X : Type} (k : Nat) {g : Nat} {T : TypeId} {cs0 : List SC} (v : X → Value) (cs : X → List SC) {A F : World → Prop} (A' : X → World → Prop) {Fn : FuncId} {args : Array Value}
    (C : Nx w00 w0 L (fun w => A w ∧ F w)) (hβ : β[k]? = some g) (hk : m.hp[k]? = some (.b true T cs0))
    (hC : ∀ w, Mem w0 L β m.hp w → Blk w g T (dens β cs0) → Keeps w [g] A → Calls P Fn args w fun e w' => ∃ x, e = .returned (v x) ∧ Only [g] w w' ∧ Blk w' g T (dens β (cs x)) ∧ Turns w w' g A (A' x))
    (hc : callOf P n β m = some (Fn, args)) (hrd : rdOf m = []) (hwf : ∀ x, (cs x).all (SC.wf m.hp.length) = true)
    (h : ∀ x w1 L1, Nx w00 w1 L1 (fun w => A' x w ∧ F w) → Hs P f R n w1 L1 β (m.put (dstOf m) (.c (.v (v x))) (m.hp.set k (.b true T (cs x))))) : Hs P f R n w0 L β m := by
  have hnm := nm_get hβ
  refine ⟨fun w H W => ?_⟩
  unfold callOf at hc
  split at hc
  · rename_i o ho
    split at hc
    · rename_i hg
      split at hc
      · rename_i F' args' hp
        injection hc with hc
        injection hc with h1 h2
        subst h1; subst h2
        have hd : dstOf m = o.dst := by unfold dstOf; rw [ho]
        rw [hd] at h
        refine Gs.op ho hg ?_
        unfold Oper.wp
        rw [fr_eval, pureOut_run P _ _ hp w]
        have hgm : g ∈ wrN β m.hp := wrN_mem.2 ⟨k, _, g, hk, hβ, rfl, rfl⟩
        refine Calls.mono (hC w H (by have := H.at k hk; rw [hnm] at this; exact this) (((C.keeps.step H).mono fun x hx => by rw [List.mem_singleton.1 hx]; exact hgm).imp fun _ h => h.1)) ?_
        rintro e w' ⟨x, rfl, O, hB, hT⟩
        have H' := H.put hk (by rw [hnm]; exact O) (by rw [hnm]; exact hB : Blk w' (nm β k) T (dens β (cs x)))
        have hwr : wrN β (m.hp.set k (.b true T (cs x))) = wrN β m.hp := wrN_set (h := .b true T cs0) (h' := .b true T (cs x)) rfl (fun _ => rfl) hk
        have C' := C.moveD H O (Turns.andR O hT) hgm
        rw [← hwr] at C'
        refine ⟨β, putS o.dst (.c (.v (v x))) m.sl, m.hp.set k (.b true T (cs x)), fr_put n β m.sl o.dst (.c (.v (v x))), fun w2 hI => ?_, (h x w' _ C').go w' H'.rebase ?_⟩
        · rw [hrd]; intro i hi; cases hi
        · simp only [SM.wf, SM.put, Bool.and_eq_true]
          refine ⟨?_, ?_⟩
          · rw [List.length_set]; exact putS_wf (SM.wf_sl W) rfl
          · rw [List.length_set]
            refine List.all_eq_true.2 fun y hy => ?_
            rcases List.mem_or_eq_of_mem_set hy with hy | rfl
            · exact List.all_eq_true.1 (SM.wf_hp W) y hy
            · exact hwf x
      · cases hc
    · cases hc
  · cases hc
/-- A slice of ours is read from here on. -/
theorem Hs.freezeN {α : Type} {cf : α → List Value} {size : Nat} (k : Nat) {A : Option Addr} {cap nl : Nat} {l : List α} {E : Nat} (C : Nx w00 w0 L D1) (hl : l.length = nl) (ek : m.hp[k]? = some (.s A cap nl E size (l.flatMap cf))) (hr : (match m.r with | .no => true | .lst .. => true | .lstN .. => true | _ => false) = true)
    (h : ∀ w1 L1, Nx w00 w1 L1 (fun w => (RdX cf w A l ∧ l.length ≤ cap ∧ cap ≤ maxLen) ∧ D1 w) → Hs P f R n w1 L1 β ⟨m.r, m.todo, m.sl, m.hp.set k .no⟩) : Hs P f R n w0 L β m := by
  refine ⟨fun w H W => ?_⟩
  have H' : Mem w0 L β (m.hp.set k .no) w := H.turn (Only.refl [] w) (by simp) (by simp) fun j h' hj => by
    rw [List.getElem?_set] at hj
    split at hj
    · split at hj
      · injection hj with hj; exact .inl hj.symm
      · cases hj
    · exact .inr (.inl ⟨hj, by simp⟩)
  have key : ∀ x ∈ wrN β (m.hp.set k .no), x ∈ L ∨ w0.heap.size ≤ x := Nx.key H'
  have hown := C.ownX H k hl ek
  have hA : ∀ a, A = some a → ∀ L' : List Nat, (∀ x ∈ L', x < w00.heap.size) → a.block ∉ L' ++ wrN β (m.hp.set k .no) := fun a ha L' hL' hx => by
    rcases List.mem_append.1 hx with hx | hx
    · subst ha
      rcases H.own k _ a.block ek rfl rfl with h1 | h1
      · have := C.mem _ h1
        have := hL' _ hx
        omega
      · have := C.size
        have := hL' _ hx
        omega
    · obtain ⟨j, hb, b, h1, h2, h3, h4⟩ := wrN_mem.1 hx
      rw [List.getElem?_set] at h1
      split at h1
      · split at h1
        · injection h1 with h1; subst h1; cases h3
        · cases h1
      · rename_i hjk
        exact hjk (H.inj k j _ _ a.block ek h1 (by subst ha; rfl) (by rw [nm_get h2]; exact h4))
  have hcap := H.capS k hl ek
  have C' : Nx w00 w (wrN β (m.hp.set k .no)) (fun w => (RdX cf w A l ∧ l.length ≤ cap ∧ cap ≤ maxLen) ∧ D1 w) := by
    refine ⟨fun w3 O3 => C.back w3 (H'.back w3 O3), fun x hx => ?_, Nat.le_trans C.size H.only.size, fun L' hL' => ?_⟩
    · rcases key x hx with h | h
      · exact C.mem x h
      · have := C.size; omega
    · refine Keeps.and ?_ ((C.keep L' hL').goN H.only (fun x hx => .inl (by simp [hx])) (fun x hx => ?_))
      · refine (rdX_keeps (H.rdX k hl ek) fun a ha => hA a ha L' hL').and fun _ _ => ⟨by rw [hl]; exact hcap.1, hcap.2⟩
      · rcases List.mem_append.1 hx with h | h
        · exact .inl (by simp [h])
        · rcases key x h with h | h
          · exact .inl (by simp [h])
          · exact .inr h
  have g2 := (h w _ C').go w H'.rebase (by
    simp only [SM.wf, Bool.and_eq_true] at W ⊢
    rw [List.length_set]
    refine ⟨W.1, List.all_eq_true.2 fun y hy => ?_⟩
    rcases List.mem_or_eq_of_mem_set hy with hy | rfl
    · exact List.all_eq_true.1 W.2 y hy
    · rfl)
  obtain ⟨r, todo, sl, hp⟩ := m
  cases r with
  | no => exact g2
  | lst => exact g2
  | lstN => exact g2
  | _ => cases hr
/-- Bytes as a string. -/
theorem Hs.strB (bs : List UInt8) {src dst e : TypeId} (hT : P.underlying src = some (.slice e)) (he : P.underlying e = some (.int .u8)) (hd : P.underlying dst = some .string) {A : Option Addr} {nl c : Nat} (hnl : bs.length = nl) (h0 : 0 < nl) (hs : semOf n β m = some (valS (convert src dst (.slice A nl c)))) (hr : ∀ w, Mem w0 L β m.hp w → RdX cu8 w A (bs.map fun b => (b.toNat : Int)))
    (k : Hs P f R n w0 L β (m.put (dstOf m) (.c (.v (.string ⟨bs.toArray⟩))) m.hp)) : Hs P f R n w0 L β m := by
  subst hnl
  refine Hs.opV _ hs rfl (fun w H => ?_) k
  obtain ⟨b, off, rfl, _, _⟩ := hr w H (by simpa using h0)
  exact run_convert_bytes_back w src dst e ⟨b, off, none⟩ c bs hT he hd fun j hj => by
    have h1 := u8_cell (hr w H) (i := j) (x := (bs[j].toNat : Int)) (by simp [List.getElem?_map, List.getElem?_eq_getElem hj])
    rw [Nat.mul_one] at h1
    rw [Addr.add_lit]
    exact h1
end
end Go.Proofs.YtnfcdbjckdhieaaGreat

namespace Go.Proofs.YtnfcdbjckdhieaaGreat
set_option linter.all false
set_option maxRecDepth 100000
open Go.RowKit

/-- What a call has made: a block, and things that stay, whatever of the block turns. -/
def NewB (w : World) (T : TypeId) {X : Type} (cs : X → List Value) (Q : X → World → Prop) : Ending → World → Prop := fun e w' => ∃ g x, e = .returned (.pointer (some ⟨g, 0, none⟩)) ∧ Only [] w w' ∧ w.heap.size ≤ g ∧ Blk w' g T (cs x) ∧ ∀ L : List Nat, (∀ y ∈ L, y < w.heap.size ∨ y = g) → Keeps w' L (Q x)
section
variable {P : Program} {f : FuncId} {R : Ending → World → Prop} {n : Nat} {w0 w00 : World} {L : List Nat} {β : List Nat} {m : SM} {D1 : World → Prop}
/-- A block of ours, at the end. -/
theorem Nx.newB {w w1 w' : World} {L1 β : List Nat} {hp : List HB} {D1 : World → Prop} {X : Type} {cs : X → List Value} {Q : X → World → Prop} (C : Nx w w1 L1 D1) (H : Mem w1 L1 β hp w') (k : Nat) {g : Nat} {T : TypeId} {sc : List SC} (x : X) (hβ : β[k]? = some g) (hk : hp[k]? = some (.b true T sc)) (hd : dens β sc = cs x) (hQ : ∀ w, D1 w → Q x w) : NewB w T cs Q (.returned (.pointer (some ⟨g, 0, none⟩))) w' := by
  have hg : g ∈ wrN β hp := wrN_mem.2 ⟨k, _, g, hk, hβ, rfl, rfl⟩
  refine ⟨g, x, rfl, C.only H, ?_, ?_, fun L hL => ?_⟩
  · rcases Nx.key H g hg with h | h
    · exact C.mem g h
    · have := C.size; omega
  · have := H.at k hk
    rw [nm_get hβ, hd] at this
    exact this
  · refine (C.fin H L fun y hy => ?_).imp hQ
    rcases hL y hy with h | h
    · exact .inl h
    · rw [h]; exact .inr hg
/-- A call that makes a block, and things that stay. -/
theorem Hs.callB {X : Type} (k : Nat) {T : TypeId} {cs : X → List Value} (sc : X → List SC) {Q : X → World → Prop} {F : FuncId} {args : Array Value} (C : Nx w00 w0 L D1)
    (hC : ∀ w, Mem w0 L β m.hp w → Calls P F args w (NewB w T cs Q)) (hd : ∀ β x, dens β (sc x) = cs x) (hsw : ∀ x j, (sc x).all (SC.wf j) = true)
    (hc : callOf P n β m = some (F, args)) (hrd : rdOf m = []) (hk : Nat.beq m.hp.length k = true)
    (h : ∀ g x w1 L1, Nx w00 w1 L1 (fun w => Q x w ∧ D1 w) → Hs P f R n w1 L1 (β ++ [g]) (m.put (dstOf m) (.c (.p k 0)) (m.hp ++ [.b true T (sc x)]))) : Hs P f R n w0 L β m := by
  have hk := Nat.eq_of_beq_eq_true hk
  refine ⟨fun w H W => ?_⟩
  unfold callOf at hc
  split at hc
  · rename_i o ho
    split at hc
    · rename_i hg
      split at hc
      · rename_i F' args' hp
        injection hc with hc
        injection hc with h1 h2
        subst h1; subst h2
        have hd' : dstOf m = o.dst := by unfold dstOf; rw [ho]
        rw [hd'] at h
        refine Gs.op ho hg ?_
        unfold Oper.wp
        rw [fr_eval, pureOut_run P _ _ hp w]
        refine Calls.mono (hC w H) ?_
        rintro e w' ⟨g, x, rfl, O, hge, hB, q⟩
        have hw := SM.wf_hp W
        have hnm : nm (β ++ [g]) β.length = g := nm_last β g
        have H' : Mem w0 L (β ++ [g]) (m.hp ++ [.b true T (sc x)]) w' := by
          refine H.push (h := .b true T (sc x)) (by rw [H.len]; exact hw) O (fun y hy => ?_) ?_
          · injection hy with hy; omega
          · show Blk w' g T (dens (β ++ [g]) (sc x))
            rw [hd]; exact hB
        have key := Nx.key H'
        have N : Nx w00 w' (wrN (β ++ [g]) (m.hp ++ [.b true T (sc x)])) (fun w => Q x w ∧ D1 w) := by
          refine ⟨fun w3 O3 => C.back w3 (H'.back w3 O3), fun y hy => ?_, Nat.le_trans C.size H'.only.size, fun L' hL' => ?_⟩
          · rcases key y hy with h | h
            · exact C.mem y h
            · have := C.size; omega
          · refine (q _ fun y hy => ?_).and ?_
            · rcases List.mem_append.1 hy with h | h
              · have := hL' y h; have := C.size; have := H.only.size; exact .inl (by omega)
              · obtain ⟨k, hb, b, h1, h2, h3, h4⟩ := wrN_mem.1 h
                rcases Nat.lt_or_ge k m.hp.length with hk | hk
                · rw [List.getElem?_append_left hk] at h1
                  rw [List.getElem?_append_left (by rw [H.len]; exact hk)] at h2
                  exact .inl (HB.lies_lt (H.lies k hb h1) (by rw [nm_get h2]; exact h4))
                · rw [List.getElem?_append_right hk] at h1
                  rw [List.getElem?_append_right (by rw [H.len]; exact hk), H.len] at h2
                  cases hkk : k - m.hp.length with
                  | zero =>
                    rw [hkk] at h1 h2
                    simp at h1 h2
                    subst h1; subst h2
                    injection h4 with h4
                    exact .inr h4.symm
                  | succ j => rw [hkk] at h1; simp at h1
            · refine (C.keep L' hL').goN H'.only (fun y hy => .inl (by simp [hy])) (fun y hy => ?_)
              rcases List.mem_append.1 hy with h | h
              · exact .inl (by simp [h])
              · rcases key y h with h | h
                · exact .inl (by simp [h])
                · exact .inr h
        have hval : (Value.pointer (some ⟨g, 0, none⟩)) = (SV.c (.p k 0)).den (β ++ [g]) := by
          show _ = Value.pointer (some ⟨nm (β ++ [g]) k, 0, none⟩)
          rw [← hk, ← H.len, hnm]
        refine ⟨β ++ [g], putS o.dst (SV.c (SC.p k 0)) m.sl, m.hp ++ [HB.b true T (sc x)], ?_, fun w2 hI => ?_, (h g x w' _ N).go w' H'.rebase ?_⟩
        · rw [hval, ← fr_app n [g] (by rw [H.len]; exact SM.wf_sl W)]
          exact fr_put n (β ++ [g]) m.sl o.dst (.c (.p k 0))
        · rw [hrd]; intro i hi; cases hi
        · simp only [SM.wf, SM.put, Bool.and_eq_true]
          refine ⟨?_, ?_⟩
          · rw [List.length_append]; exact putS_wf (Slots.wf_mono (by omega) (SM.wf_sl W)) (by simp [SV.wf, SC.wf, ← hk, blt_spec])
          · rw [List.length_append]
            refine List.all_eq_true.2 fun y hy => ?_
            rcases List.mem_append.1 hy with hy | hy
            · have h1 := List.all_eq_true.1 hw y hy
              cases y with
              | b _ _ cs => exact List.all_eq_true.2 fun u hu => SC.wf_mono (by omega) (List.all_eq_true.1 h1 u hu)
              | _ => rfl
            · rw [List.mem_singleton.1 hy]; exact hsw x _
      · cases hc
    · cases hc
  · cases hc
end
end Go.Proofs.YtnfcdbjckdhieaaGreat

namespace Go.Proofs.YtnfcdbjckdhieaaGreat
set_option linter.all false
set_option maxRecDepth 100000
open Go.RowKit

def typedSt (t : TM) (st : Bool) (c : Int) : Bool := if t.is 8 c && t.is 9 c then !st else if t.is 9 c then true else if t.is 8 c || t.has 39 then false else st
def typedF (t : TM) (st : Bool) (c : Int) : Bool := if t.has 38 then typedSt t st c else st
def typedU (t : TM) (c : Int) : Bool := t.has 38 && (t.is 8 c || t.is 9 c)
theorem typed_any (t : TM) (st held : Bool) (c : Int) (w : World) : Calls Tryz.prog 42 #[t.val, .agg #[.bool st, .bool held], .int .u8 c] w fun e w' => e = .returned (.tuple #[.agg #[.bool (typedF t st c), .bool held], .bool (typedU t c)]) ∧ Only [] w w' := by
  refine Hs.enter Tryz.func42 [] [] [] [.g t.sc, .g [.v (.bool st), .v (.bool held)], .c (.v (.int .u8 c))] (Mem.start0 w) (by kernel_rfl) (by kernel_rfl) ?_
  refine Hs.run3 300 (fun _ => by kernel_rfl) fun b0 b1 b2 => ?_
  refine Hs.callV (fun w' H => has_any t 38 w') (by kernel_rfl) ?_
  refine Hs.run0 300 (fun _ => by kernel_rfl) ?_
  refine Hs.cond (!t.has 38) (by kernel_rfl) (fun h => ?_) (fun h => ?_)
  · replace h : t.has 38 = false := by simpa using h
    refine Hs.run0 300 (fun _ => by kernel_rfl) ?_
    exact Hs.ret (v := .tuple #[.agg #[.bool st, .bool held], .bool false]) Tryz.func42 (by kernel_rfl) fun w' H => ⟨by simp only [typedF, typedU, h, Bool.false_and, Bool.false_eq_true, if_false], H.only⟩
  replace h : t.has 38 = true := by simpa using h
  have eF : typedF t st c = typedSt t st c := by simp only [typedF, h, if_true]
  have eU : typedU t c = (t.is 8 c || t.is 9 c) := by simp only [typedU, h, Bool.true_and]
  rw [eF, eU]
  refine Hs.run1 300 (fun _ => by kernel_rfl) fun b3 => ?_
  refine Hs.any [0] (by kernel_rfl) ?_
  refine Hs.run0 300 (fun _ => by kernel_rfl) ?_
  refine Hs.callV (fun w' H => is_any t 8 c (by decide) (by decide) w') (by kernel_rfl) ?_
  refine Hs.run0 300 (fun _ => by kernel_rfl) ?_
  refine Hs.callV (fun w' H => is_any t 9 c (by decide) (by decide) w') (by kernel_rfl) ?_
  refine Hs.run0 300 (fun _ => by kernel_rfl) ?_
  refine Hs.bool 30 (t.is 8 c) (by kernel_rfl) (fun h8 => ?_) (fun h8 => ?_)
  · refine Hs.rung0 [1] 300 (fun _ => by kernel_rfl) ?_
    refine Hs.cond (t.is 9 c) (by kernel_rfl) (fun h9 => ?_) (fun h9 => ?_)
    · refine Hs.run0 300 (fun _ => by kernel_rfl) ?_
      refine Hs.inl Tryz.func83 [.c (.p 3 0)] (by kernel_rfl) (by kernel_rfl) ?_
      refine Hs.run0 300 (fun _ => by kernel_rfl) ?_
      refine Hs.retI Tryz.func83 (by kernel_rfl) (by kernel_rfl) (by kernel_rfl) ?_
      refine Hs.run0 300 (fun _ => by kernel_rfl) ?_
      refine Hs.bool 52 (t.is 8 c) (by kernel_rfl) (fun _ => ?_) (fun hx => absurd (h8.symm.trans hx) (by decide))
      refine Hs.rung0 [5] 300 (fun _ => by kernel_rfl) ?_
      exact Hs.ret (v := .tuple #[.agg #[.bool (!st), .bool held], .bool (true)]) Tryz.func42 (by kernel_rfl) fun w' H => ⟨by simp only [typedSt, h8, h9, Bool.and_true, Bool.and_false, Bool.and_self, Bool.true_or, Bool.or_true, Bool.false_or, Bool.or_self, Bool.false_eq_true, if_false, if_true], H.only⟩
    · refine Hs.run0 300 (fun _ => by kernel_rfl) ?_
      refine Hs.cond (t.is 9 c) (by kernel_rfl) (fun hx => absurd (h9.symm.trans hx) (by decide)) (fun _ => ?_)
      refine Hs.run0 300 (fun _ => by kernel_rfl) ?_
      refine Hs.cond (t.is 8 c) (by kernel_rfl) (fun _ => ?_) (fun hx => absurd (h8.symm.trans hx) (by decide))
      refine Hs.run0 300 (fun _ => by kernel_rfl) ?_
      refine Hs.cond (t.is 8 c) (by kernel_rfl) (fun _ => ?_) (fun hx => absurd (h8.symm.trans hx) (by decide))
      refine Hs.run0 300 (fun _ => by kernel_rfl) ?_
      refine Hs.inl Tryz.func85 [.c (.p 3 0)] (by kernel_rfl) (by kernel_rfl) ?_
      refine Hs.run0 300 (fun _ => by kernel_rfl) ?_
      refine Hs.retI Tryz.func85 (by kernel_rfl) (by kernel_rfl) (by kernel_rfl) ?_
      refine Hs.run0 300 (fun _ => by kernel_rfl) ?_
      refine Hs.bool 52 (t.is 8 c) (by kernel_rfl) (fun _ => ?_) (fun hx => absurd (h8.symm.trans hx) (by decide))
      refine Hs.rung0 [5] 300 (fun _ => by kernel_rfl) ?_
      exact Hs.ret (v := .tuple #[.agg #[.bool (false), .bool held], .bool (true)]) Tryz.func42 (by kernel_rfl) fun w' H => ⟨by simp only [typedSt, h8, h9, Bool.and_true, Bool.and_false, Bool.and_self, Bool.true_or, Bool.or_true, Bool.false_or, Bool.or_self, Bool.false_eq_true, if_false, if_true], H.only⟩
  · refine Hs.rung0 [1] 300 (fun _ => by kernel_rfl) ?_
    refine Hs.condF (by kernel_rfl) ?_
    refine Hs.run0 300 (fun _ => by kernel_rfl) ?_
    refine Hs.cond (t.is 9 c) (by kernel_rfl) (fun h9 => ?_) (fun h9 => ?_)
    · refine Hs.run0 300 (fun _ => by kernel_rfl) ?_
      refine Hs.inl Tryz.func84 [.c (.p 3 0)] (by kernel_rfl) (by kernel_rfl) ?_
      refine Hs.run0 300 (fun _ => by kernel_rfl) ?_
      refine Hs.retI Tryz.func84 (by kernel_rfl) (by kernel_rfl) (by kernel_rfl) ?_
      refine Hs.run0 300 (fun _ => by kernel_rfl) ?_
      refine Hs.bool 52 (t.is 8 c) (by kernel_rfl) (fun hx => absurd (h8.symm.trans hx) (by decide)) (fun _ => ?_)
      refine Hs.rung0 [5] 300 (fun _ => by kernel_rfl) ?_
      exact Hs.ret (v := .tuple #[.agg #[.bool (true), .bool held], .bool (t.is 9 c)]) Tryz.func42 (by kernel_rfl) fun w' H => ⟨by simp only [typedSt, h8, h9, Bool.and_true, Bool.and_false, Bool.and_self, Bool.true_or, Bool.or_true, Bool.false_or, Bool.or_self, Bool.false_eq_true, if_false, if_true], H.only⟩
    · refine Hs.run0 300 (fun _ => by kernel_rfl) ?_
      refine Hs.cond (t.is 8 c) (by kernel_rfl) (fun hx => absurd (h8.symm.trans hx) (by decide)) (fun _ => ?_)
      refine Hs.run0 300 (fun _ => by kernel_rfl) ?_
      refine Hs.callV (fun w' H => has_any t 39 w') (by kernel_rfl) ?_
      refine Hs.run0 300 (fun _ => by kernel_rfl) ?_
      refine Hs.cond (t.has 39) (by kernel_rfl) (fun h3 => ?_) (fun h3 => ?_)
      · refine Hs.run0 300 (fun _ => by kernel_rfl) ?_
        refine Hs.inl Tryz.func85 [.c (.p 3 0)] (by kernel_rfl) (by kernel_rfl) ?_
        refine Hs.run0 300 (fun _ => by kernel_rfl) ?_
        refine Hs.retI Tryz.func85 (by kernel_rfl) (by kernel_rfl) (by kernel_rfl) ?_
        refine Hs.run0 300 (fun _ => by kernel_rfl) ?_
        refine Hs.bool 52 (t.is 8 c) (by kernel_rfl) (fun hx => absurd (h8.symm.trans hx) (by decide)) (fun _ => ?_)
        refine Hs.rung0 [5] 300 (fun _ => by kernel_rfl) ?_
        exact Hs.ret (v := .tuple #[.agg #[.bool (false), .bool held], .bool (t.is 9 c)]) Tryz.func42 (by kernel_rfl) fun w' H => ⟨by simp only [typedSt, h8, h9, h3, Bool.and_true, Bool.and_false, Bool.and_self, Bool.true_or, Bool.or_true, Bool.false_or, Bool.or_self, Bool.false_eq_true, if_false, if_true], H.only⟩
      · refine Hs.run0 300 (fun _ => by kernel_rfl) ?_
        refine Hs.inl Tryz.func82 [.c (.p 3 0)] (by kernel_rfl) (by kernel_rfl) ?_
        refine Hs.run0 300 (fun _ => by kernel_rfl) ?_
        refine Hs.retI Tryz.func82 (by kernel_rfl) (by kernel_rfl) (by kernel_rfl) ?_
        refine Hs.run0 300 (fun _ => by kernel_rfl) ?_
        refine Hs.bool 52 (t.is 8 c) (by kernel_rfl) (fun hx => absurd (h8.symm.trans hx) (by decide)) (fun _ => ?_)
        refine Hs.rung0 [5] 300 (fun _ => by kernel_rfl) ?_
        exact Hs.ret (v := .tuple #[.agg #[.bool (st), .bool held], .bool (t.is 9 c)]) Tryz.func42 (by kernel_rfl) fun w' H => ⟨by simp only [typedSt, h8, h9, h3, Bool.and_true, Bool.and_false, Bool.and_self, Bool.true_or, Bool.or_true, Bool.false_or, Bool.or_self, Bool.false_eq_true, if_false, if_true], H.only⟩
end Go.Proofs.YtnfcdbjckdhieaaGreat

namespace Go.Proofs.YtnfcdbjckdhieaaGreat
set_option linter.all false
set_option maxRecDepth 100000
open Go.RowKit

/-- A slice of bytes of a call's own, in what it hands back. -/
def OwnU (l : List Int) (w : World) (v : Option Addr → Nat → Value) : Ending → World → Prop := fun e w' => ∃ A cap, e = .returned (v A cap) ∧ Only [] w w' ∧ OwnX cu8 5 1 w' w.heap.size (.slice A l.length cap) l
def tellC (t : TM) (op : Nat) : List Int := if t.on op then [t.chr op] else []
def markH (t : TM) (held : Bool) (used low high : Int) : Bool := if (!held && t.has 40) && decide (used ≥ high) then true else if held && decide (used ≤ low) then false else held
def markO (t : TM) (held : Bool) (used low high : Int) : List Int := if (!held && t.has 40) && decide (used ≥ high) then tellC t 9 else if held && decide (used ≤ low) then (if t.has 40 then tellC t 8 else []) else []
theorem mark_any (t : TM) (st held : Bool) (used low high : Int) (w : World) : Calls Tryz.prog 75 #[t.val, .agg #[.bool st, .bool held], .int .i64 used, .int .i64 low, .int .i64 high] w (OwnU (markO t held used low high) w fun A cap => .tuple #[.agg #[.bool st, .bool (markH t held used low high)], .slice A (markO t held used low high).length cap]) := by
  refine Hs.enter Tryz.func75 [] [] [] [.g t.sc, .g [.v (.bool st), .v (.bool held)], .c (.v (.int .i64 used)), .c (.v (.int .i64 low)), .c (.v (.int .i64 high))] (Mem.start0 w) (by kernel_rfl) (by kernel_rfl) ?_
  refine Hs.run4 300 (fun _ => by kernel_rfl) fun b0 b1 b2 b3 => ?_
  refine Hs.callV (fun w' H => has_any t 40 w') (by kernel_rfl) ?_
  refine Hs.nilS 5 1 (by kernel_rfl) ?_ (by kernel_rfl)
  refine Hs.run0 300 (fun _ => by kernel_rfl) ?_
  refine Hs.bool 24 (!held) (by kernel_rfl) (fun hh => ?_) (fun hh => ?_)
  · replace hh : held = false := by simpa using hh
    refine Hs.rung0 [3] 300 (fun _ => by kernel_rfl) ?_
    refine Hs.bool 27 (t.has 40) (by kernel_rfl) (fun h4 => ?_) (fun h4 => ?_)
    · refine Hs.rung0 [3, 6] 300 (fun _ => by kernel_rfl) ?_
      refine Hs.cond (decide (used ≥ high)) (by kernel_rfl) (fun hu => ?_) (fun hu => ?_)
      · refine Hs.run0 300 (fun _ => by kernel_rfl) ?_
        refine Hs.inl Tryz.func116 [.c (.p 3 0)] (by kernel_rfl) (by kernel_rfl) ?_
        refine Hs.run0 300 (fun _ => by kernel_rfl) ?_
        refine Hs.inl Tryz.func155 [.c (.p 3 0), .c (.v (.int .i64 9))] (by kernel_rfl) (by kernel_rfl) ?_
        refine Hs.run0 300 (fun _ => by kernel_rfl) ?_
        refine Hs.callV (fun w' H => char_any t 9 (by decide) (by decide) w') (by kernel_rfl) ?_
        refine Hs.run0 300 (fun _ => by kernel_rfl) ?_
        refine Hs.cond (t.on 9) (by kernel_rfl) (fun ho => ?_) (fun ho => ?_)
        · refine Hs.run1 300 (fun _ => by kernel_rfl) fun b5 => ?_
          refine Hs.app (c := 1) (ty := 27) 4 elemU8 [] [t.chr 9] 0 1 rfl rfl cu8_one cu8_len (A := none) (B := some ⟨b5, 0, none⟩) (cap := 0) (by kernel_rfl) (by kernel_rfl) (by kernel_rfl) (fun w' H => H.rdB (gs := [t.chr 9]) 5 (wr := true) (T := 5) (cs := [.v (.int .u8 (t.chr 9))]) (by kernel_rfl) rfl) (by unfold maxLen; omega) (by rw [by_u8]; omega) fun A3 c3 h3 => ?_
          refine Hs.run0 300 (fun _ => by kernel_rfl) ?_
          refine Hs.retI Tryz.func155 (by kernel_rfl) (by kernel_rfl) (by kernel_rfl) ?_
          refine Hs.run0 300 (fun _ => by kernel_rfl) ?_
          refine Hs.retI Tryz.func116 (by kernel_rfl) (by kernel_rfl) (by kernel_rfl) ?_
          refine Hs.run0 300 (fun _ => by kernel_rfl) ?_
          refine Hs.any [3] (by kernel_rfl) ?_
          refine Hs.run0 300 (fun _ => by kernel_rfl) ?_
          have e1 : markH t held used low high = true := by simp only [markH, hh, h4, hu, ho, Bool.and_true, Bool.true_and, Bool.and_false, Bool.false_and, Bool.not_true, Bool.not_false, Bool.and_self, Bool.false_eq_true, if_false, if_true]
          have e2 : markO t held used low high = [t.chr 9] := by simp only [markO, tellC, hh, h4, hu, ho, Bool.and_true, Bool.true_and, Bool.and_false, Bool.false_and, Bool.not_true, Bool.not_false, Bool.and_self, Bool.false_eq_true, if_false, if_true]
          rw [e1, e2]
          exact Hs.ret (v := .tuple #[.agg #[.bool st, .bool true], .slice A3 1 c3]) Tryz.func75 (by kernel_rfl) fun w' H => ⟨A3, c3, rfl, H.only, H.fresh 4 rfl (by kernel_rfl)⟩
        · refine Hs.run0 300 (fun _ => by kernel_rfl) ?_
          refine Hs.retI Tryz.func155 (by kernel_rfl) (by kernel_rfl) (by kernel_rfl) ?_
          refine Hs.run0 300 (fun _ => by kernel_rfl) ?_
          refine Hs.retI Tryz.func116 (by kernel_rfl) (by kernel_rfl) (by kernel_rfl) ?_
          refine Hs.run0 300 (fun _ => by kernel_rfl) ?_
          refine Hs.any [3] (by kernel_rfl) ?_
          refine Hs.run0 300 (fun _ => by kernel_rfl) ?_
          have e1 : markH t held used low high = true := by simp only [markH, hh, h4, hu, ho, Bool.and_true, Bool.true_and, Bool.and_false, Bool.false_and, Bool.not_true, Bool.not_false, Bool.and_self, Bool.false_eq_true, if_false, if_true]
          have e2 : markO t held used low high = [] := by simp only [markO, tellC, hh, h4, hu, ho, Bool.and_true, Bool.true_and, Bool.and_false, Bool.false_and, Bool.not_true, Bool.not_false, Bool.and_self, Bool.false_eq_true, if_false, if_true]
          rw [e1, e2]
          exact Hs.ret (v := .tuple #[.agg #[.bool st, .bool true], .slice none 0 0]) Tryz.func75 (by kernel_rfl) fun w' H => ⟨none, 0, rfl, H.only, H.fresh 4 rfl (by kernel_rfl)⟩
      · refine Hs.run0 300 (fun _ => by kernel_rfl) ?_
        refine Hs.bool 41 held (by kernel_rfl) (fun hx => absurd (hh.symm.trans hx) (by decide)) (fun _ => ?_)
        refine Hs.rung0 [2] 300 (fun _ => by kernel_rfl) ?_
        refine Hs.condF (by kernel_rfl) ?_
        refine Hs.run0 300 (fun _ => by kernel_rfl) ?_
        refine Hs.any [3] (by kernel_rfl) ?_
        refine Hs.run0 300 (fun _ => by kernel_rfl) ?_
        have e1 : markH t held used low high = held := by simp only [markH, hh, h4, hu, Bool.and_true, Bool.true_and, Bool.and_false, Bool.false_and, Bool.not_true, Bool.not_false, Bool.and_self, Bool.false_eq_true, if_false, if_true]
        have e2 : markO t held used low high = [] := by simp only [markO, tellC, hh, h4, hu, Bool.and_true, Bool.true_and, Bool.and_false, Bool.false_and, Bool.not_true, Bool.not_false, Bool.and_self, Bool.false_eq_true, if_false, if_true]
        rw [e1, e2]
        exact Hs.ret (v := .tuple #[.agg #[.bool st, .bool held], .slice none 0 0]) Tryz.func75 (by kernel_rfl) fun w' H => ⟨none, 0, rfl, H.only, H.fresh 4 rfl (by kernel_rfl)⟩
    · refine Hs.rung0 [3, 6] 300 (fun _ => by kernel_rfl) ?_
      refine Hs.condF (by kernel_rfl) ?_
      refine Hs.run0 300 (fun _ => by kernel_rfl) ?_
      refine Hs.bool 41 held (by kernel_rfl) (fun hx => absurd (hh.symm.trans hx) (by decide)) (fun _ => ?_)
      refine Hs.rung0 [2] 300 (fun _ => by kernel_rfl) ?_
      refine Hs.condF (by kernel_rfl) ?_
      refine Hs.run0 300 (fun _ => by kernel_rfl) ?_
      refine Hs.any [3] (by kernel_rfl) ?_
      refine Hs.run0 300 (fun _ => by kernel_rfl) ?_
      have e1 : markH t held used low high = held := by simp only [markH, hh, h4, Bool.and_true, Bool.true_and, Bool.and_false, Bool.false_and, Bool.not_true, Bool.not_false, Bool.and_self, Bool.false_eq_true, if_false, if_true]
      have e2 : markO t held used low high = [] := by simp only [markO, tellC, hh, h4, Bool.and_true, Bool.true_and, Bool.and_false, Bool.false_and, Bool.not_true, Bool.not_false, Bool.and_self, Bool.false_eq_true, if_false, if_true]
      rw [e1, e2]
      exact Hs.ret (v := .tuple #[.agg #[.bool st, .bool held], .slice none 0 0]) Tryz.func75 (by kernel_rfl) fun w' H => ⟨none, 0, rfl, H.only, H.fresh 4 rfl (by kernel_rfl)⟩
  · replace hh : held = true := by simpa using hh
    refine Hs.rung0 [3, 6] 300 (fun _ => by kernel_rfl) ?_
    refine Hs.condF (by kernel_rfl) ?_
    refine Hs.run0 300 (fun _ => by kernel_rfl) ?_
    refine Hs.bool 41 held (by kernel_rfl) (fun _ => ?_) (fun hx => absurd (hh.symm.trans hx) (by decide))
    refine Hs.rung0 [2] 300 (fun _ => by kernel_rfl) ?_
    refine Hs.cond (decide (used ≤ low)) (by kernel_rfl) (fun hl => ?_) (fun hl => ?_)
    · refine Hs.run0 300 (fun _ => by kernel_rfl) ?_
      refine Hs.cond (t.has 40) (by kernel_rfl) (fun h4 => ?_) (fun h4 => ?_)
      · refine Hs.run0 300 (fun _ => by kernel_rfl) ?_
        refine Hs.inl Tryz.func117 [.c (.p 3 0)] (by kernel_rfl) (by kernel_rfl) ?_
        refine Hs.run0 300 (fun _ => by kernel_rfl) ?_
        refine Hs.inl Tryz.func155 [.c (.p 3 0), .c (.v (.int .i64 8))] (by kernel_rfl) (by kernel_rfl) ?_
        refine Hs.run0 300 (fun _ => by kernel_rfl) ?_
        refine Hs.callV (fun w' H => char_any t 8 (by decide) (by decide) w') (by kernel_rfl) ?_
        refine Hs.run0 300 (fun _ => by kernel_rfl) ?_
        refine Hs.cond (t.on 8) (by kernel_rfl) (fun ho => ?_) (fun ho => ?_)
        · refine Hs.run1 300 (fun _ => by kernel_rfl) fun b5 => ?_
          refine Hs.app (c := 1) (ty := 27) 4 elemU8 [] [t.chr 8] 0 1 rfl rfl cu8_one cu8_len (A := none) (B := some ⟨b5, 0, none⟩) (cap := 0) (by kernel_rfl) (by kernel_rfl) (by kernel_rfl) (fun w' H => H.rdB (gs := [t.chr 8]) 5 (wr := true) (T := 5) (cs := [.v (.int .u8 (t.chr 8))]) (by kernel_rfl) rfl) (by unfold maxLen; omega) (by rw [by_u8]; omega) fun A3 c3 h3 => ?_
          refine Hs.run0 300 (fun _ => by kernel_rfl) ?_
          refine Hs.retI Tryz.func155 (by kernel_rfl) (by kernel_rfl) (by kernel_rfl) ?_
          refine Hs.run0 300 (fun _ => by kernel_rfl) ?_
          refine Hs.retI Tryz.func117 (by kernel_rfl) (by kernel_rfl) (by kernel_rfl) ?_
          refine Hs.run0 300 (fun _ => by kernel_rfl) ?_
          refine Hs.any [3] (by kernel_rfl) ?_
          refine Hs.run0 300 (fun _ => by kernel_rfl) ?_
          have e1 : markH t held used low high = false := by simp only [markH, hh, hl, h4, ho, Bool.and_true, Bool.true_and, Bool.and_false, Bool.false_and, Bool.not_true, Bool.not_false, Bool.and_self, Bool.false_eq_true, if_false, if_true]
          have e2 : markO t held used low high = [t.chr 8] := by simp only [markO, tellC, hh, hl, h4, ho, Bool.and_true, Bool.true_and, Bool.and_false, Bool.false_and, Bool.not_true, Bool.not_false, Bool.and_self, Bool.false_eq_true, if_false, if_true]
          rw [e1, e2]
          exact Hs.ret (v := .tuple #[.agg #[.bool st, .bool false], .slice A3 1 c3]) Tryz.func75 (by kernel_rfl) fun w' H => ⟨A3, c3, rfl, H.only, H.fresh 4 rfl (by kernel_rfl)⟩
        · refine Hs.run0 300 (fun _ => by kernel_rfl) ?_
          refine Hs.retI Tryz.func155 (by kernel_rfl) (by kernel_rfl) (by kernel_rfl) ?_
          refine Hs.run0 300 (fun _ => by kernel_rfl) ?_
          refine Hs.retI Tryz.func117 (by kernel_rfl) (by kernel_rfl) (by kernel_rfl) ?_
          refine Hs.run0 300 (fun _ => by kernel_rfl) ?_
          refine Hs.any [3] (by kernel_rfl) ?_
          refine Hs.run0 300 (fun _ => by kernel_rfl) ?_
          have e1 : markH t held used low high = false := by simp only [markH, hh, hl, h4, ho, Bool.and_true, Bool.true_and, Bool.and_false, Bool.false_and, Bool.not_true, Bool.not_false, Bool.and_self, Bool.false_eq_true, if_false, if_true]
          have e2 : markO t held used low high = [] := by simp only [markO, tellC, hh, hl, h4, ho, Bool.and_true, Bool.true_and, Bool.and_false, Bool.false_and, Bool.not_true, Bool.not_false, Bool.and_self, Bool.false_eq_true, if_false, if_true]
          rw [e1, e2]
          exact Hs.ret (v := .tuple #[.agg #[.bool st, .bool false], .slice none 0 0]) Tryz.func75 (by kernel_rfl) fun w' H => ⟨none, 0, rfl, H.only, H.fresh 4 rfl (by kernel_rfl)⟩
      · refine Hs.run0 300 (fun _ => by kernel_rfl) ?_
        refine Hs.any [3] (by kernel_rfl) ?_
        refine Hs.run0 300 (fun _ => by kernel_rfl) ?_
        have e1 : markH t held used low high = false := by simp only [markH, hh, hl, h4, Bool.and_true, Bool.true_and, Bool.and_false, Bool.false_and, Bool.not_true, Bool.not_false, Bool.and_self, Bool.false_eq_true, if_false, if_true]
        have e2 : markO t held used low high = [] := by simp only [markO, tellC, hh, hl, h4, Bool.and_true, Bool.true_and, Bool.and_false, Bool.false_and, Bool.not_true, Bool.not_false, Bool.and_self, Bool.false_eq_true, if_false, if_true]
        rw [e1, e2]
        exact Hs.ret (v := .tuple #[.agg #[.bool st, .bool false], .slice none 0 0]) Tryz.func75 (by kernel_rfl) fun w' H => ⟨none, 0, rfl, H.only, H.fresh 4 rfl (by kernel_rfl)⟩
    · refine Hs.run0 300 (fun _ => by kernel_rfl) ?_
      refine Hs.any [3] (by kernel_rfl) ?_
      refine Hs.run0 300 (fun _ => by kernel_rfl) ?_
      have e1 : markH t held used low high = held := by simp only [markH, hh, hl, Bool.and_true, Bool.true_and, Bool.and_false, Bool.false_and, Bool.not_true, Bool.not_false, Bool.and_self, Bool.false_eq_true, if_false, if_true]
      have e2 : markO t held used low high = [] := by simp only [markO, tellC, hh, hl, Bool.and_true, Bool.true_and, Bool.and_false, Bool.false_and, Bool.not_true, Bool.not_false, Bool.and_self, Bool.false_eq_true, if_false, if_true]
      rw [e1, e2]
      exact Hs.ret (v := .tuple #[.agg #[.bool st, .bool held], .slice none 0 0]) Tryz.func75 (by kernel_rfl) fun w' H => ⟨none, 0, rfl, H.only, H.fresh 4 rfl (by kernel_rfl)⟩
end Go.Proofs.YtnfcdbjckdhieaaGreat

namespace Go.Proofs.YtnfcdbjckdhieaaGreat
set_option linter.all false
set_option maxRecDepth 100000
open Go.RowKit

/-- A line that waits, as it lies in memory. -/
structure Ln where
  A : Option Addr
  c : Nat
  txt : List Int
  eof : Bool
def cLn (x : Ln) : List Value := [.slice x.A x.txt.length x.c, .bool x.eof]
theorem cLn_len (x : Ln) : (cLn x).length = 2 := rfl
theorem cLn_one (x : Ln) : ∀ u ∈ cLn x, u.oneCell' = true := by
  intro u hu
  simp only [cLn, List.mem_cons, List.not_mem_nil, or_false] at hu
  rcases hu with rfl | rfl <;> rfl
theorem elemLn : ElemT Tryz.prog 93 128 2 (Tryz.prog.bytesOf 128) := elemT_of (z := .agg #[.slice none 0 0, .bool false]) (by kernel_rfl) (by kernel_rfl) (by decide) (by decide)
theorem by_line : Tryz.prog.bytesOf 128 = 32 := by kernel_rfl
theorem elemBs : ElemT Tryz.prog 176 27 1 (Tryz.prog.bytesOf 27) := elemT_of (z := .slice none 0 0) (by kernel_rfl) (by kernel_rfl) (by decide) (by decide)
theorem elemLs : ElemT Tryz.prog 221 93 1 (Tryz.prog.bytesOf 93) := elemT_of (z := .slice none 0 0) (by kernel_rfl) (by kernel_rfl) (by decide) (by decide)
/-- A part of what is joined. -/
structure Pc (α : Type) where
  A : Option Addr
  c : Nat
  l : List α
def Pc.cs {α : Type} (p : Pc α) : List Value := [.slice p.A p.l.length p.c]
theorem pc_len {α : Type} (p : Pc α) : p.cs.length = 1 := rfl
def totP {α : Type} (ps : List (Pc α)) : List α := ps.flatMap Pc.l
theorem totP_snoc {α : Type} (ps : List (Pc α)) (p : Pc α) : totP (ps ++ [p]) = totP ps ++ p.l := by simp [totP]
theorem totP_take {α : Type} (ps : List (Pc α)) (i : Nat) : (totP (ps.take i)).length ≤ (totP ps).length := by
  have h : totP ps = totP (ps.take i) ++ totP (ps.drop i) := by
    unfold totP
    rw [← List.flatMap_append, List.take_append_drop]
  rw [h, List.length_append]
  omega

theorem growB_any (q : Nat) (hq : q ≤ 1000000) (w : World) : Calls Tryz.prog 99 #[.slice none 0 0, .int .i64 q] w fun e w' => ∃ A cap, e = .returned (.slice A 0 cap) ∧ Only [] w w' ∧ OwnX cu8 5 1 w' w.heap.size (.slice A 0 cap) [] := by
  refine Hs.enter Tryz.func99 [] [] [] [.c (.v (.slice none 0 0)), .c (.v (.int .i64 q))] (Mem.start0 w) (by kernel_rfl) (by kernel_rfl) ?_
  refine Hs.run0 300 (fun _ => by kernel_rfl) ?_
  refine Hs.condP ((q : Int) < 0) (by kernel_rfl) (fun h => by omega) (fun h => ?_)
  refine Hs.run0 300 (fun _ => by kernel_rfl) ?_
  have eq : IntKind.i64.wrap ((q : Int) - IntKind.i64.wrap (((0 : Nat) : Int) - ((0 : Nat) : Int))) = q := by
    rw [IntWalk.i64_in (((0 : Nat) : Int) - ((0 : Nat) : Int)) (by omega), IntWalk.i64_in _ (by omega)]; omega
  refine Hs.slot 1 (.c (.v (.int .i64 q))) rfl ((by kernel_rfl : _ = Value.int .i64 (IntKind.i64.wrap ((q : Int) - IntKind.i64.wrap (((0 : Nat) : Int) - ((0 : Nat) : Int))))).trans (congrArg (Value.int .i64) eq)) ?_
  refine Hs.condP (IntKind.i64.wrap ((q : Int) - IntKind.i64.wrap (((0 : Nat) : Int) - ((0 : Nat) : Int))) > 0) (by kernel_rfl) (fun h => ?_) (fun h => ?_)
  all_goals rw [eq] at h
  · have hb := by_u8
    refine Hs.run0 300 (fun _ => by kernel_rfl) ?_
    refine Hs.pure (.c (.v (.slice none 0 0))) (by kernel_rfl) (by kernel_rfl) ?_
    refine Hs.run0 300 (fun _ => by kernel_rfl) ?_
    refine Hs.growN (q := q) (tn := 3) (ty := 27) elemU8 (by kernel_rfl) (by omega) (by unfold maxLen; omega) (by rw [hb]; omega) (by kernel_rfl) (by kernel_rfl) fun g2 c2 zs hz h1 h2 => ?_
    refine Hs.run0 300 (fun _ => by kernel_rfl) ?_
    refine Hs.shi (g := g2) (off := 0) (len := q) (cap := c2) (i := 0) elemU8 (Nat.zero_le _) (by kernel_rfl) ?_
    refine Hs.run0 300 (fun _ => by kernel_rfl) ?_
    refine Hs.cutS (g := g2) (cap := c2) (nl := q) (vs := zs) (E := 5) (size := 1) 0 (i := 0) (by kernel_rfl) (Nat.zero_le _) (by kernel_rfl) ?_
    exact Hs.ret (v := .slice (some ⟨g2, 0, none⟩) 0 c2) Tryz.func99 (by kernel_rfl) fun w' H => ⟨some ⟨g2, 0, none⟩, c2, rfl, H.only, H.fresh 0 (l := []) rfl (by kernel_rfl)⟩
  · refine Hs.run0 300 (fun _ => by kernel_rfl) ?_
    exact Hs.ret (v := .slice none 0 0) Tryz.func99 (by kernel_rfl) fun w' H => ⟨none, 0, rfl, H.only, ownX_nil⟩
theorem concatB_any (ps : List (Pc Int)) (As : Option Addr) (capS : Nat) (w : World) (hr : RdX Pc.cs w As ps) (hcs : ps.length ≤ capS ∧ capS ≤ maxLen) (hp : ∀ p ∈ ps, RdX cu8 w p.A p.l) (ht : (totP ps).length ≤ 1000000) : Calls Tryz.prog 51 #[.slice As ps.length capS] w fun e w' => ∃ A cap, e = .returned (.slice A (totP ps).length cap) ∧ Only [] w w' ∧ OwnX cu8 5 1 w' w.heap.size (.slice A (totP ps).length cap) (totP ps) := by
  have hm : ps.length ≤ maxLen := Nat.le_trans hcs.1 hcs.2
  have hb := by_u8
  have step : ∀ i p, ps[i]? = some p → totP (ps.take (i + 1)) = totP (ps.take i) ++ p.l := fun i p h => by
    rw [List.take_add_one, h]; exact totP_snoc _ _
  have J2 : ∀ (d i : Nat), ps.length - i = d → i ≤ ps.length → ∀ (A : Option Addr) (c nt : Nat) (l : List Int), l = totP (ps.take i) → l.length = nt → ∀ (u : Nat → Value), Hs Tryz.prog 51 (fun e w' => ∃ A cap, e = .returned (.slice A (totP ps).length cap) ∧ Only [] w w' ∧ OwnX cu8 5 1 w' w.heap.size (.slice A (totP ps).length cap) (totP ps)) (Tryz.f51).ntmps w [] [0] ⟨.no, loopAt Tryz.f51 1, pins [(6, .c (.v (.slice A nt c))), (25, .c (.v (.slice As ps.length capS))), (26, .c (.v (.int .i64 ps.length))), (27, .c (.v (.int .i64 i)))] (.vals u), [.s A c nt 5 1 (l.flatMap cu8)]⟩ := by
    intro d
    induction d with
    | zero =>
      intro i hd hi A c nt l hl hnt u
      obtain rfl : i = ps.length := by omega
      rw [List.take_length] at hl
      subst hl
      subst hnt
      refine Hs.run0 300 (fun _ => by kernel_rfl) ?_
      refine Hs.condP ((ps.length : Int) < (ps.length : Int)) (by kernel_rfl) (fun h => by omega) (fun h => ?_)
      refine Hs.run0 300 (fun _ => by kernel_rfl) ?_
      exact Hs.ret (v := .slice A (totP ps).length c) Tryz.func51 (by kernel_rfl) fun w' H => ⟨A, c, rfl, H.only, H.fresh 0 rfl (by kernel_rfl)⟩
    | succ d ih =>
      intro i hd hi A c nt l hl hnt u
      have hil : i < ps.length := by omega
      obtain ⟨p, hx⟩ : ∃ p, ps[i]? = some p := ⟨_, List.getElem?_eq_getElem hil⟩
      obtain ⟨ab, aoff, hA, _, _⟩ := hr (by omega)
      subst hA
      have hpm := hp p (List.mem_of_getElem? hx)
      have hs := step i p hx
      have hle := totP_take ps (i + 1)
      rw [hs, ← hl, List.length_append, hnt] at hle
      refine Hs.run0 300 (fun _ => by kernel_rfl) ?_
      refine Hs.condP ((i : Int) < (ps.length : Int)) (by kernel_rfl) (fun h => ?_) (fun h => by omega)
      refine Hs.run0 300 (fun _ => by kernel_rfl) ?_
      refine Hs.idx (b := ab) (off := aoff) (c := capS) elemBs hil (by kernel_rfl) ?_
      refine Hs.ldc (E' := 27) (b := ab) (off := aoff + i * 1) (.slice p.A p.l.length p.c) (by kernel_rfl) (fun w' H => rdX_cell pc_len (hr.only H.only) hx (j := 0) rfl) (by kernel_rfl) ?_
      refine Hs.run0 300 (fun _ => by kernel_rfl) ?_
      refine Hs.app (c := p.c) (ty := 27) 0 elemU8 l p.l nt p.l.length hnt rfl cu8_one cu8_len (A := A) (B := p.A) (cap := c) (by kernel_rfl) (by kernel_rfl) (by kernel_rfl) (fun w' H => hpm.only H.only) (by unfold maxLen; omega) (by rw [hb]; omega) fun A3 c3 h3 => ?_
      refine Hs.run0 300 (fun _ => by kernel_rfl) ?_
      refine Hs.slot 27 (.c (.v (.int .i64 (i + 1 : Nat)))) rfl ((by kernel_rfl : _ = Value.int .i64 (IntKind.i64.wrap ((i : Int) + 1))).trans (wrap_nextJ hm)) ?_
      refine Hs.loop (by kernel_rfl) ?_
      exact Hs.goto (loopAt Tryz.f51 1) [0] [.s A3 c3 (nt + p.l.length) 5 1 ((l ++ p.l).flatMap cu8)] [(6, .c (.v (.slice A3 (nt + p.l.length) c3))), (25, .c (.v (.slice (some ⟨ab, aoff, none⟩) ps.length capS))), (26, .c (.v (.int .i64 ps.length))), (27, .c (.v (.int .i64 (i + 1 : Nat))))] (by kernel_rfl) (by decide) (by kernel_rfl) (by kernel_rfl) (fun _ => (by kernel_rfl)) (fun u => ih (i + 1) (by omega) (by omega) A3 c3 _ _ (by rw [hs, hl]) (by rw [List.length_append, hnt]) u)
  have J1 : ∀ (d i : Nat), ps.length - i = d → i ≤ ps.length → ∀ (nt : Nat), nt = (totP (ps.take i)).length → ∀ (u : Nat → Value), Hs Tryz.prog 51 (fun e w' => ∃ A cap, e = .returned (.slice A (totP ps).length cap) ∧ Only [] w w' ∧ OwnX cu8 5 1 w' w.heap.size (.slice A (totP ps).length cap) (totP ps)) (Tryz.f51).ntmps w [] [] ⟨.no, loopAt Tryz.f51 0, pins [(0, .c (.v (.slice As ps.length capS))), (3, .c (.v (.int .i64 nt))), (9, .c (.v (.slice As ps.length capS))), (10, .c (.v (.int .i64 ps.length))), (11, .c (.v (.int .i64 i)))] (.vals u), []⟩ := by
    intro d
    induction d with
    | zero =>
      intro i hd hi nt hnt u
      obtain rfl : i = ps.length := by omega
      rw [List.take_length] at hnt
      refine Hs.run0 300 (fun _ => by kernel_rfl) ?_
      refine Hs.condP ((ps.length : Int) < (ps.length : Int)) (by kernel_rfl) (fun h => by omega) (fun h => ?_)
      refine Hs.run0 300 (fun _ => by kernel_rfl) ?_
      refine Hs.callS (cf := cu8) (E := 5) (size := 1) (fun A cap => .slice A 0 cap) [] 0 rfl (fun w' H => growB_any nt (by omega) w') (by kernel_rfl) (by kernel_rfl) fun A c h1 h2 => ?_
      refine Hs.run0 300 (fun _ => by kernel_rfl) ?_
      refine Hs.loop (by kernel_rfl) ?_
      exact Hs.goto (loopAt Tryz.f51 1) [0] [.s A c 0 5 1 (([] : List Int).flatMap cu8)] [(6, .c (.v (.slice A 0 c))), (25, .c (.v (.slice As ps.length capS))), (26, .c (.v (.int .i64 ps.length))), (27, .c (.v (.int .i64 (0 : Nat))))] (by kernel_rfl) (by decide) (by kernel_rfl) (by kernel_rfl) (fun _ => (by kernel_rfl)) (fun u => J2 ps.length 0 (by omega) (by omega) A c 0 [] rfl rfl u)
    | succ d ih =>
      intro i hd hi nt hnt u
      have hil : i < ps.length := by omega
      obtain ⟨p, hx⟩ : ∃ p, ps[i]? = some p := ⟨_, List.getElem?_eq_getElem hil⟩
      obtain ⟨ab, aoff, hA, _, _⟩ := hr (by omega)
      subst hA
      have hs := step i p hx
      have hle := totP_take ps (i + 1)
      rw [hs, List.length_append, ← hnt] at hle
      refine Hs.run0 300 (fun _ => by kernel_rfl) ?_
      refine Hs.condP ((i : Int) < (ps.length : Int)) (by kernel_rfl) (fun h => ?_) (fun h => by omega)
      refine Hs.run0 300 (fun _ => by kernel_rfl) ?_
      refine Hs.idx (b := ab) (off := aoff) (c := capS) elemBs hil (by kernel_rfl) ?_
      refine Hs.ldc (E' := 27) (b := ab) (off := aoff + i * 1) (.slice p.A p.l.length p.c) (by kernel_rfl) (fun w' H => rdX_cell pc_len (hr.only H.only) hx (j := 0) rfl) (by kernel_rfl) ?_
      refine Hs.run0 300 (fun _ => by kernel_rfl) ?_
      have e3 : IntKind.i64.wrap ((nt : Int) + (p.l.length : Int)) = ((nt + p.l.length : Nat) : Int) := by rw [IntWalk.i64_in _ (by omega)]; omega
      refine Hs.slot 3 (.c (.v (.int .i64 (nt + p.l.length : Nat)))) rfl ((by kernel_rfl : _ = Value.int .i64 (IntKind.i64.wrap ((nt : Int) + (p.l.length : Int)))).trans (congrArg (Value.int .i64) e3)) ?_
      refine Hs.condP (IntKind.i64.wrap ((nt : Int) + (p.l.length : Int)) < 0) (by kernel_rfl) (fun h => by rw [e3] at h; omega) (fun h => ?_)
      refine Hs.run0 300 (fun _ => by kernel_rfl) ?_
      refine Hs.slot 11 (.c (.v (.int .i64 (i + 1 : Nat)))) rfl ((by kernel_rfl : _ = Value.int .i64 (IntKind.i64.wrap ((i : Int) + 1))).trans (wrap_nextJ hm)) ?_
      refine Hs.loop (by kernel_rfl) ?_
      exact Hs.goto (loopAt Tryz.f51 0) [] [] [(0, .c (.v (.slice (some ⟨ab, aoff, none⟩) ps.length capS))), (3, .c (.v (.int .i64 (nt + p.l.length : Nat)))), (9, .c (.v (.slice (some ⟨ab, aoff, none⟩) ps.length capS))), (10, .c (.v (.int .i64 ps.length))), (11, .c (.v (.int .i64 (i + 1 : Nat))))] (by kernel_rfl) (by decide) (by kernel_rfl) (by kernel_rfl) (fun _ => (by kernel_rfl)) (fun u => ih (i + 1) (by omega) (by omega) _ (by rw [hs, List.length_append, hnt]) u)
  refine Hs.enter Tryz.func51 [] [] [] [.c (.v (.slice As ps.length capS))] (Mem.start0 w) (by kernel_rfl) (by kernel_rfl) ?_
  refine Hs.run0 300 (fun _ => by kernel_rfl) ?_
  refine Hs.loop (by kernel_rfl) ?_
  exact Hs.goto (loopAt Tryz.f51 0) [] [] [(0, .c (.v (.slice As ps.length capS))), (3, .c (.v (.int .i64 (0 : Nat)))), (9, .c (.v (.slice As ps.length capS))), (10, .c (.v (.int .i64 ps.length))), (11, .c (.v (.int .i64 (0 : Nat))))] (by kernel_rfl) (by decide) (by kernel_rfl) (by kernel_rfl) (fun _ => (by kernel_rfl)) (fun u => J1 ps.length 0 (by omega) (by omega) 0 rfl u)
theorem cloneB_any (l : List Int) (A : Option Addr) (cap : Nat) (w : World) (hr : RdX cu8 w A l) (hf : l.length ≤ 1000000) : Calls Tryz.prog 101 #[.slice A l.length cap] w fun e w' => ∃ A' cap', e = .returned (.slice A' l.length cap') ∧ Only [] w w' ∧ OwnX cu8 5 1 w' w.heap.size (.slice A' l.length cap') l := by
  have hb := by_u8
  cases A with
  | none =>
    have hl0 : l = [] := by
      cases l with
      | nil => rfl
      | cons a r => obtain ⟨b, off, e, _⟩ := hr (by simp); cases e
    subst hl0
    refine Hs.enter Tryz.func101 [] [] [] [.c (.v (.slice none 0 cap))] (Mem.start0 w) (by kernel_rfl) (by kernel_rfl) ?_
    refine Hs.run0 300 (fun _ => by kernel_rfl) ?_
    refine Hs.condT (by kernel_rfl) ?_
    refine Hs.run0 300 (fun _ => by kernel_rfl) ?_
    exact Hs.ret (v := .slice none 0 0) Tryz.func101 (by kernel_rfl) fun w' H => ⟨none, 0, rfl, H.only, ownX_nil⟩
  | some a =>
    refine Hs.enter Tryz.func101 [] [] [] [.c (.v (.slice (some a) l.length cap))] (Mem.start0 w) (by kernel_rfl) (by kernel_rfl) ?_
    refine Hs.run0 300 (fun _ => by kernel_rfl) ?_
    refine Hs.condF (by kernel_rfl) ?_
    refine Hs.run1 300 (fun _ => by kernel_rfl) fun b0 => ?_
    refine Hs.litX (cf := cu8) (ty := 27) (c := cap) 0 elemU8 l l.length rfl cu8_one cu8_len (by kernel_rfl) (by kernel_rfl) (by kernel_rfl) (fun w' H => hr.only H.only) (by unfold maxLen; omega) (by rw [hb]; omega) fun A' cap' h1 h2 => ?_
    refine Hs.run0 300 (fun _ => by kernel_rfl) ?_
    exact Hs.ret (v := .slice A' l.length cap') Tryz.func101 (by kernel_rfl) fun w' H => ⟨A', cap', rfl, H.only, H.fresh 0 rfl (by kernel_rfl)⟩

theorem growL_any (q : Nat) (hq : q ≤ 1000000) (w : World) : Calls Tryz.prog 167 #[.slice none 0 0, .int .i64 q] w fun e w' => ∃ A cap, e = .returned (.slice A 0 cap) ∧ Only [] w w' ∧ OwnX cLn 128 2 w' w.heap.size (.slice A 0 cap) [] := by
  refine Hs.enter Tryz.func167 [] [] [] [.c (.v (.slice none 0 0)), .c (.v (.int .i64 q))] (Mem.start0 w) (by kernel_rfl) (by kernel_rfl) ?_
  refine Hs.run0 300 (fun _ => by kernel_rfl) ?_
  refine Hs.condP ((q : Int) < 0) (by kernel_rfl) (fun h => by omega) (fun h => ?_)
  refine Hs.run0 300 (fun _ => by kernel_rfl) ?_
  have eq : IntKind.i64.wrap ((q : Int) - IntKind.i64.wrap (((0 : Nat) : Int) - ((0 : Nat) : Int))) = q := by
    rw [IntWalk.i64_in (((0 : Nat) : Int) - ((0 : Nat) : Int)) (by omega), IntWalk.i64_in _ (by omega)]; omega
  refine Hs.slot 1 (.c (.v (.int .i64 q))) rfl ((by kernel_rfl : _ = Value.int .i64 (IntKind.i64.wrap ((q : Int) - IntKind.i64.wrap (((0 : Nat) : Int) - ((0 : Nat) : Int))))).trans (congrArg (Value.int .i64) eq)) ?_
  refine Hs.condP (IntKind.i64.wrap ((q : Int) - IntKind.i64.wrap (((0 : Nat) : Int) - ((0 : Nat) : Int))) > 0) (by kernel_rfl) (fun h => ?_) (fun h => ?_)
  all_goals rw [eq] at h
  · have hb := by_line
    refine Hs.run0 300 (fun _ => by kernel_rfl) ?_
    refine Hs.pure (.c (.v (.slice none 0 0))) (by kernel_rfl) (by kernel_rfl) ?_
    refine Hs.run0 300 (fun _ => by kernel_rfl) ?_
    refine Hs.growN (q := q) (tn := 3) (ty := 93) elemLn (by kernel_rfl) (by omega) (by unfold maxLen; omega) (by rw [hb]; omega) (by kernel_rfl) (by kernel_rfl) fun g2 c2 zs hz h1 h2 => ?_
    refine Hs.run0 300 (fun _ => by kernel_rfl) ?_
    refine Hs.shi (g := g2) (off := 0) (len := q) (cap := c2) (i := 0) elemLn (Nat.zero_le _) (by kernel_rfl) ?_
    refine Hs.run0 300 (fun _ => by kernel_rfl) ?_
    refine Hs.cutS (g := g2) (cap := c2) (nl := q) (vs := zs) (E := 128) (size := 2) 0 (i := 0) (by kernel_rfl) (Nat.zero_le _) (by kernel_rfl) ?_
    exact Hs.ret (v := .slice (some ⟨g2, 0, none⟩) 0 c2) Tryz.func167 (by kernel_rfl) fun w' H => ⟨some ⟨g2, 0, none⟩, c2, rfl, H.only, H.fresh 0 (l := []) rfl (by kernel_rfl)⟩
  · refine Hs.run0 300 (fun _ => by kernel_rfl) ?_
    exact Hs.ret (v := .slice none 0 0) Tryz.func167 (by kernel_rfl) fun w' H => ⟨none, 0, rfl, H.only, ownX_nil⟩
theorem concatL_any (ps : List (Pc Ln)) (As : Option Addr) (capS : Nat) (w : World) (hr : RdX Pc.cs w As ps) (hcs : ps.length ≤ capS ∧ capS ≤ maxLen) (hp : ∀ p ∈ ps, RdX cLn w p.A p.l) (ht : (totP ps).length ≤ 1000000) : Calls Tryz.prog 136 #[.slice As ps.length capS] w fun e w' => ∃ A cap, e = .returned (.slice A (totP ps).length cap) ∧ Only [] w w' ∧ OwnX cLn 128 2 w' w.heap.size (.slice A (totP ps).length cap) (totP ps) := by
  have hm : ps.length ≤ maxLen := Nat.le_trans hcs.1 hcs.2
  have hb := by_line
  have step : ∀ i p, ps[i]? = some p → totP (ps.take (i + 1)) = totP (ps.take i) ++ p.l := fun i p h => by
    rw [List.take_add_one, h]; exact totP_snoc _ _
  have J2 : ∀ (d i : Nat), ps.length - i = d → i ≤ ps.length → ∀ (A : Option Addr) (c nt : Nat) (l : List Ln), l = totP (ps.take i) → l.length = nt → ∀ (u : Nat → Value), Hs Tryz.prog 136 (fun e w' => ∃ A cap, e = .returned (.slice A (totP ps).length cap) ∧ Only [] w w' ∧ OwnX cLn 128 2 w' w.heap.size (.slice A (totP ps).length cap) (totP ps)) (Tryz.f136).ntmps w [] [0] ⟨.no, loopAt Tryz.f136 1, pins [(6, .c (.v (.slice A nt c))), (25, .c (.v (.slice As ps.length capS))), (26, .c (.v (.int .i64 ps.length))), (27, .c (.v (.int .i64 i)))] (.vals u), [.s A c nt 128 2 (l.flatMap cLn)]⟩ := by
    intro d
    induction d with
    | zero =>
      intro i hd hi A c nt l hl hnt u
      obtain rfl : i = ps.length := by omega
      rw [List.take_length] at hl
      subst hl
      subst hnt
      refine Hs.run0 300 (fun _ => by kernel_rfl) ?_
      refine Hs.condP ((ps.length : Int) < (ps.length : Int)) (by kernel_rfl) (fun h => by omega) (fun h => ?_)
      refine Hs.run0 300 (fun _ => by kernel_rfl) ?_
      exact Hs.ret (v := .slice A (totP ps).length c) Tryz.func136 (by kernel_rfl) fun w' H => ⟨A, c, rfl, H.only, H.fresh 0 rfl (by kernel_rfl)⟩
    | succ d ih =>
      intro i hd hi A c nt l hl hnt u
      have hil : i < ps.length := by omega
      obtain ⟨p, hx⟩ : ∃ p, ps[i]? = some p := ⟨_, List.getElem?_eq_getElem hil⟩
      obtain ⟨ab, aoff, hA, _, _⟩ := hr (by omega)
      subst hA
      have hpm := hp p (List.mem_of_getElem? hx)
      have hs := step i p hx
      have hle := totP_take ps (i + 1)
      rw [hs, ← hl, List.length_append, hnt] at hle
      refine Hs.run0 300 (fun _ => by kernel_rfl) ?_
      refine Hs.condP ((i : Int) < (ps.length : Int)) (by kernel_rfl) (fun h => ?_) (fun h => by omega)
      refine Hs.run0 300 (fun _ => by kernel_rfl) ?_
      refine Hs.idx (b := ab) (off := aoff) (c := capS) elemLs hil (by kernel_rfl) ?_
      refine Hs.ldc (E' := 93) (b := ab) (off := aoff + i * 1) (.slice p.A p.l.length p.c) (by kernel_rfl) (fun w' H => rdX_cell pc_len (hr.only H.only) hx (j := 0) rfl) (by kernel_rfl) ?_
      refine Hs.run0 300 (fun _ => by kernel_rfl) ?_
      refine Hs.app (c := p.c) (ty := 93) 0 elemLn l p.l nt p.l.length hnt rfl cLn_one cLn_len (A := A) (B := p.A) (cap := c) (by kernel_rfl) (by kernel_rfl) (by kernel_rfl) (fun w' H => hpm.only H.only) (by unfold maxLen; omega) (by rw [hb]; omega) fun A3 c3 h3 => ?_
      refine Hs.run0 300 (fun _ => by kernel_rfl) ?_
      refine Hs.slot 27 (.c (.v (.int .i64 (i + 1 : Nat)))) rfl ((by kernel_rfl : _ = Value.int .i64 (IntKind.i64.wrap ((i : Int) + 1))).trans (wrap_nextJ hm)) ?_
      refine Hs.loop (by kernel_rfl) ?_
      exact Hs.goto (loopAt Tryz.f136 1) [0] [.s A3 c3 (nt + p.l.length) 128 2 ((l ++ p.l).flatMap cLn)] [(6, .c (.v (.slice A3 (nt + p.l.length) c3))), (25, .c (.v (.slice (some ⟨ab, aoff, none⟩) ps.length capS))), (26, .c (.v (.int .i64 ps.length))), (27, .c (.v (.int .i64 (i + 1 : Nat))))] (by kernel_rfl) (by decide) (by kernel_rfl) (by kernel_rfl) (fun _ => (by kernel_rfl)) (fun u => ih (i + 1) (by omega) (by omega) A3 c3 _ _ (by rw [hs, hl]) (by rw [List.length_append, hnt]) u)
  have J1 : ∀ (d i : Nat), ps.length - i = d → i ≤ ps.length → ∀ (nt : Nat), nt = (totP (ps.take i)).length → ∀ (u : Nat → Value), Hs Tryz.prog 136 (fun e w' => ∃ A cap, e = .returned (.slice A (totP ps).length cap) ∧ Only [] w w' ∧ OwnX cLn 128 2 w' w.heap.size (.slice A (totP ps).length cap) (totP ps)) (Tryz.f136).ntmps w [] [] ⟨.no, loopAt Tryz.f136 0, pins [(0, .c (.v (.slice As ps.length capS))), (3, .c (.v (.int .i64 nt))), (9, .c (.v (.slice As ps.length capS))), (10, .c (.v (.int .i64 ps.length))), (11, .c (.v (.int .i64 i)))] (.vals u), []⟩ := by
    intro d
    induction d with
    | zero =>
      intro i hd hi nt hnt u
      obtain rfl : i = ps.length := by omega
      rw [List.take_length] at hnt
      refine Hs.run0 300 (fun _ => by kernel_rfl) ?_
      refine Hs.condP ((ps.length : Int) < (ps.length : Int)) (by kernel_rfl) (fun h => by omega) (fun h => ?_)
      refine Hs.run0 300 (fun _ => by kernel_rfl) ?_
      refine Hs.callS (cf := cLn) (E := 128) (size := 2) (fun A cap => .slice A 0 cap) [] 0 rfl (fun w' H => growL_any nt (by omega) w') (by kernel_rfl) (by kernel_rfl) fun A c h1 h2 => ?_
      refine Hs.run0 300 (fun _ => by kernel_rfl) ?_
      refine Hs.loop (by kernel_rfl) ?_
      exact Hs.goto (loopAt Tryz.f136 1) [0] [.s A c 0 128 2 (([] : List Ln).flatMap cLn)] [(6, .c (.v (.slice A 0 c))), (25, .c (.v (.slice As ps.length capS))), (26, .c (.v (.int .i64 ps.length))), (27, .c (.v (.int .i64 (0 : Nat))))] (by kernel_rfl) (by decide) (by kernel_rfl) (by kernel_rfl) (fun _ => (by kernel_rfl)) (fun u => J2 ps.length 0 (by omega) (by omega) A c 0 [] rfl rfl u)
    | succ d ih =>
      intro i hd hi nt hnt u
      have hil : i < ps.length := by omega
      obtain ⟨p, hx⟩ : ∃ p, ps[i]? = some p := ⟨_, List.getElem?_eq_getElem hil⟩
      obtain ⟨ab, aoff, hA, _, _⟩ := hr (by omega)
      subst hA
      have hs := step i p hx
      have hle := totP_take ps (i + 1)
      rw [hs, List.length_append, ← hnt] at hle
      refine Hs.run0 300 (fun _ => by kernel_rfl) ?_
      refine Hs.condP ((i : Int) < (ps.length : Int)) (by kernel_rfl) (fun h => ?_) (fun h => by omega)
      refine Hs.run0 300 (fun _ => by kernel_rfl) ?_
      refine Hs.idx (b := ab) (off := aoff) (c := capS) elemLs hil (by kernel_rfl) ?_
      refine Hs.ldc (E' := 93) (b := ab) (off := aoff + i * 1) (.slice p.A p.l.length p.c) (by kernel_rfl) (fun w' H => rdX_cell pc_len (hr.only H.only) hx (j := 0) rfl) (by kernel_rfl) ?_
      refine Hs.run0 300 (fun _ => by kernel_rfl) ?_
      have e3 : IntKind.i64.wrap ((nt : Int) + (p.l.length : Int)) = ((nt + p.l.length : Nat) : Int) := by rw [IntWalk.i64_in _ (by omega)]; omega
      refine Hs.slot 3 (.c (.v (.int .i64 (nt + p.l.length : Nat)))) rfl ((by kernel_rfl : _ = Value.int .i64 (IntKind.i64.wrap ((nt : Int) + (p.l.length : Int)))).trans (congrArg (Value.int .i64) e3)) ?_
      refine Hs.condP (IntKind.i64.wrap ((nt : Int) + (p.l.length : Int)) < 0) (by kernel_rfl) (fun h => by rw [e3] at h; omega) (fun h => ?_)
      refine Hs.run0 300 (fun _ => by kernel_rfl) ?_
      refine Hs.slot 11 (.c (.v (.int .i64 (i + 1 : Nat)))) rfl ((by kernel_rfl : _ = Value.int .i64 (IntKind.i64.wrap ((i : Int) + 1))).trans (wrap_nextJ hm)) ?_
      refine Hs.loop (by kernel_rfl) ?_
      exact Hs.goto (loopAt Tryz.f136 0) [] [] [(0, .c (.v (.slice (some ⟨ab, aoff, none⟩) ps.length capS))), (3, .c (.v (.int .i64 (nt + p.l.length : Nat)))), (9, .c (.v (.slice (some ⟨ab, aoff, none⟩) ps.length capS))), (10, .c (.v (.int .i64 ps.length))), (11, .c (.v (.int .i64 (i + 1 : Nat))))] (by kernel_rfl) (by decide) (by kernel_rfl) (by kernel_rfl) (fun _ => (by kernel_rfl)) (fun u => ih (i + 1) (by omega) (by omega) _ (by rw [hs, List.length_append, hnt]) u)
  refine Hs.enter Tryz.func136 [] [] [] [.c (.v (.slice As ps.length capS))] (Mem.start0 w) (by kernel_rfl) (by kernel_rfl) ?_
  refine Hs.run0 300 (fun _ => by kernel_rfl) ?_
  refine Hs.loop (by kernel_rfl) ?_
  exact Hs.goto (loopAt Tryz.f136 0) [] [] [(0, .c (.v (.slice As ps.length capS))), (3, .c (.v (.int .i64 (0 : Nat)))), (9, .c (.v (.slice As ps.length capS))), (10, .c (.v (.int .i64 ps.length))), (11, .c (.v (.int .i64 (0 : Nat))))] (by kernel_rfl) (by decide) (by kernel_rfl) (by kernel_rfl) (fun _ => (by kernel_rfl)) (fun u => J1 ps.length 0 (by omega) (by omega) 0 rfl u)
theorem cloneL_any (l : List Ln) (A : Option Addr) (cap : Nat) (w : World) (hr : RdX cLn w A l) (hf : l.length ≤ 1000000) : Calls Tryz.prog 142 #[.slice A l.length cap] w fun e w' => ∃ A' cap', e = .returned (.slice A' l.length cap') ∧ Only [] w w' ∧ OwnX cLn 128 2 w' w.heap.size (.slice A' l.length cap') l := by
  have hb := by_line
  cases A with
  | none =>
    have hl0 : l = [] := by
      cases l with
      | nil => rfl
      | cons a r => obtain ⟨b, off, e, _⟩ := hr (by simp); cases e
    subst hl0
    refine Hs.enter Tryz.func142 [] [] [] [.c (.v (.slice none 0 cap))] (Mem.start0 w) (by kernel_rfl) (by kernel_rfl) ?_
    refine Hs.run0 300 (fun _ => by kernel_rfl) ?_
    refine Hs.condT (by kernel_rfl) ?_
    refine Hs.run0 300 (fun _ => by kernel_rfl) ?_
    exact Hs.ret (v := .slice none 0 0) Tryz.func142 (by kernel_rfl) fun w' H => ⟨none, 0, rfl, H.only, ownX_nil⟩
  | some a =>
    refine Hs.enter Tryz.func142 [] [] [] [.c (.v (.slice (some a) l.length cap))] (Mem.start0 w) (by kernel_rfl) (by kernel_rfl) ?_
    refine Hs.run0 300 (fun _ => by kernel_rfl) ?_
    refine Hs.condF (by kernel_rfl) ?_
    refine Hs.run1 300 (fun _ => by kernel_rfl) fun b0 => ?_
    refine Hs.litX (cf := cLn) (ty := 93) (c := cap) 0 elemLn l l.length rfl cLn_one cLn_len (by kernel_rfl) (by kernel_rfl) (by kernel_rfl) (fun w' H => hr.only H.only) (by unfold maxLen; omega) (by rw [hb]; omega) fun A' cap' h1 h2 => ?_
    refine Hs.run0 300 (fun _ => by kernel_rfl) ?_
    exact Hs.ret (v := .slice A' l.length cap') Tryz.func142 (by kernel_rfl) fun w' H => ⟨A', cap', rfl, H.only, H.fresh 0 rfl (by kernel_rfl)⟩
end Go.Proofs.YtnfcdbjckdhieaaGreat

namespace Go.Proofs.YtnfcdbjckdhieaaGreat
set_option linter.all false
set_option maxRecDepth 100000
open Go.RowKit

theorem dens_u8 (β : List Nat) (l : List Int) : dens β (l.map fun x => .v (.int .u8 x)) = l.flatMap cu8 := by
  induction l with
  | nil => rfl
  | cons x l ih => simp only [List.map_cons, List.flatMap_cons, ← ih]; rfl
/-- Bytes of a literal. -/
theorem Mem.freshU {w0 w : World} {β : List Nat} {hp : List HB} (H : Mem w0 [] β hp w) (k : Nat) (l : List Int) (hn : l.length ≤ 1000) (hk : hp[k]? = some (.b true 5 (l.map fun x => .v (.int .u8 x)))) : OwnX cu8 5 1 w w0.heap.size (.slice (some ⟨nm β k, 0, none⟩) l.length l.length) l :=
  H.freshB k l rfl hk (dens_u8 β l) cu8_len (by unfold maxLen; omega)
def quietC (c : Int) : Bool := decide (c < 32) || c == 127
theorem quiet_any (c : Int) (w : World) : Calls Tryz.prog 189 #[.int .u8 c] w fun e w' => e = .returned (.bool (quietC c)) ∧ Only [] w w' := by
  refine Hs.enter Tryz.func189 [] [] [] [.c (.v (.int .u8 c))] (Mem.start0 w) (by kernel_rfl) (by kernel_rfl) ?_
  refine Hs.run0 300 (fun _ => by kernel_rfl) ?_
  refine Hs.bool 5 (decide (c < 32)) (by kernel_rfl) (fun h => ?_) (fun h => ?_)
  · refine Hs.rung0 [2] 300 (fun _ => by kernel_rfl) ?_
    exact Hs.ret (v := .bool true) Tryz.func189 (by kernel_rfl) fun w' H => ⟨by simp only [quietC, h, Bool.true_or], H.only⟩
  · refine Hs.rung0 [2] 300 (fun _ => by kernel_rfl) ?_
    exact Hs.ret (v := .bool (c == 127)) Tryz.func189 (by kernel_rfl) fun w' H => ⟨by simp only [quietC, h, Bool.false_or], H.only⟩
def hatC (t : TM) (c : Int) : Bool := quietC c && (c != 9 && (c != 10 && t.has 60))
theorem hat_any (t : TM) (c : Int) (w : World) : Calls Tryz.prog 159 #[t.val, .int .u8 c] w fun e w' => e = .returned (.bool (hatC t c)) ∧ Only [] w w' := by
  refine Hs.enter Tryz.func159 [] [] [] [.g t.sc, .c (.v (.int .u8 c))] (Mem.start0 w) (by kernel_rfl) (by kernel_rfl) ?_
  refine Hs.run1 300 (fun _ => by kernel_rfl) fun b0 => ?_
  refine Hs.callV (fun w' H => quiet_any c w') (by kernel_rfl) ?_
  refine Hs.run0 300 (fun _ => by kernel_rfl) ?_
  refine Hs.bool 7 (quietC c) (by kernel_rfl) (fun h1 => ?_) (fun h1 => ?_)
  · refine Hs.rung0 [2] 300 (fun _ => by kernel_rfl) ?_
    refine Hs.bool 11 (c != 9) (by kernel_rfl) (fun h2 => ?_) (fun h2 => ?_)
    · refine Hs.rung0 [2, 6] 300 (fun _ => by kernel_rfl) ?_
      refine Hs.bool 15 (c != 10) (by kernel_rfl) (fun h3 => ?_) (fun h3 => ?_)
      · refine Hs.rung0 [2, 6, 10] 300 (fun _ => by kernel_rfl) ?_
        refine Hs.callV (fun w' H => has_any t 60 w') (by kernel_rfl) ?_
        refine Hs.rung0 [2, 6, 10] 300 (fun _ => by kernel_rfl) ?_
        exact Hs.ret (v := .bool (t.has 60)) Tryz.func159 (by kernel_rfl) fun w' H => ⟨by simp only [hatC, h1, h2, h3, Bool.true_and], H.only⟩
      · refine Hs.rung0 [2, 6, 10] 300 (fun _ => by kernel_rfl) ?_
        exact Hs.ret (v := .bool false) Tryz.func159 (by kernel_rfl) fun w' H => ⟨by simp only [hatC, h1, h2, h3, Bool.true_and, Bool.false_and], H.only⟩
    · refine Hs.rung0 [2, 6, 10] 300 (fun _ => by kernel_rfl) ?_
      exact Hs.ret (v := .bool false) Tryz.func159 (by kernel_rfl) fun w' H => ⟨by simp only [hatC, h1, h2, Bool.true_and, Bool.false_and], H.only⟩
  · refine Hs.rung0 [2, 6, 10] 300 (fun _ => by kernel_rfl) ?_
    exact Hs.ret (v := .bool false) Tryz.func159 (by kernel_rfl) fun w' H => ⟨by simp only [hatC, h1, Bool.false_and], H.only⟩
def xorC (c : Int) : Int := IntKind.u8.wrap (((BitVec.ofInt 8 c) ^^^ (BitVec.ofInt 8 64)).toNat)
def showC (t : TM) (c : Int) : List Int := if hatC t c then [94, xorC c] else [c]
theorem show_le (t : TM) (c : Int) : (showC t c).length ≤ 2 := by unfold showC; split <;> simp
theorem show_any (t : TM) (c : Int) (w : World) : Calls Tryz.prog 120 #[t.val, .int .u8 c] w (OwnU (showC t c) w fun A cap => .slice A (showC t c).length cap) := by
  refine Hs.enter Tryz.func120 [] [] [] [.g t.sc, .c (.v (.int .u8 c))] (Mem.start0 w) (by kernel_rfl) (by kernel_rfl) ?_
  refine Hs.run1 300 (fun _ => by kernel_rfl) fun b0 => ?_
  refine Hs.callV (fun w' H => hat_any t c w') (by kernel_rfl) ?_
  refine Hs.run0 300 (fun _ => by kernel_rfl) ?_
  refine Hs.cond (hatC t c) (by kernel_rfl) (fun h => ?_) (fun h => ?_)
  · have e : showC t c = [94, xorC c] := by simp only [showC, h, if_true]
    refine Hs.run1 300 (fun _ => by kernel_rfl) fun b1 => ?_
    exact Hs.ret (v := .slice (some ⟨b1, 0, none⟩) 2 2) Tryz.func120 (by kernel_rfl) fun w' H => by
      rw [OwnU, e]
      exact ⟨some ⟨b1, 0, none⟩, 2, rfl, H.only, H.freshU 1 [94, xorC c] (by simp) (by kernel_rfl)⟩
  · have e : showC t c = [c] := by simp only [showC, h, Bool.false_eq_true, if_false]
    refine Hs.run1 300 (fun _ => by kernel_rfl) fun b1 => ?_
    exact Hs.ret (v := .slice (some ⟨b1, 0, none⟩) 1 1) Tryz.func120 (by kernel_rfl) fun w' H => by
      rw [OwnU, e]
      exact ⟨some ⟨b1, 0, none⟩, 1, rfl, H.only, H.freshU 1 [c] (by simp) (by kernel_rfl)⟩
def mkC (t : TM) (c : Int) : List Int := if (c == 255 && t.has 31) && !t.has 33 then [255, 255] else [c]
theorem mk_le (t : TM) (c : Int) : (mkC t c).length ≤ 2 := by unfold mkC; split <;> simp
theorem miMark_any (t : TM) (c : Int) (w : World) : Calls Tryz.prog 89 #[t.val, .int .u8 c] w (OwnU (mkC t c) w fun A cap => .slice A (mkC t c).length cap) := by
  refine Hs.enter Tryz.func89 [] [] [] [.g t.sc, .c (.v (.int .u8 c))] (Mem.start0 w) (by kernel_rfl) (by kernel_rfl) ?_
  refine Hs.run2 300 (fun _ => by kernel_rfl) fun b0 b1 => ?_
  have one : ∀ {β : List Nat} {m : SM} {b2 : Nat}, mkC t c = [c] → retOf Tryz.prog Tryz.f89 (Tryz.f89).ntmps β m = some (.slice (some ⟨b2, 0, none⟩) 1 1) → m.hp[2]? = some (.b true 5 [.v (.int .u8 c)]) → nm β 2 = b2 → Hs Tryz.prog 89 (OwnU (mkC t c) w fun A cap => .slice A (mkC t c).length cap) (Tryz.f89).ntmps w [] β m := fun e hr hm hb => Hs.ret Tryz.func89 hr fun w' H => by
    rw [OwnU, e]
    subst hb
    exact ⟨some ⟨nm _ 2, 0, none⟩, 1, rfl, H.only, H.freshU 2 [c] (by simp) hm⟩
  refine Hs.bool 10 (c == 255) (by kernel_rfl) (fun h1 => ?_) (fun h1 => ?_)
  · refine Hs.rung0 [2] 300 (fun _ => by kernel_rfl) ?_
    refine Hs.callV (fun w' H => ihas_any t 31 w') (by kernel_rfl) ?_
    refine Hs.rung0 [2] 300 (fun _ => by kernel_rfl) ?_
    refine Hs.bool 14 (t.has 31) (by kernel_rfl) (fun h2 => ?_) (fun h2 => ?_)
    · refine Hs.rung0 [2, 6] 300 (fun _ => by kernel_rfl) ?_
      refine Hs.callV (fun w' H => ihas_any t 33 w') (by kernel_rfl) ?_
      refine Hs.rung0 [2, 6] 300 (fun _ => by kernel_rfl) ?_
      refine Hs.cond (!t.has 33) (by kernel_rfl) (fun h3 => ?_) (fun h3 => ?_)
      · have e : mkC t c = [255, 255] := by simp only [mkC, h1, h2, h3, Bool.and_self, if_true]
        refine Hs.run1 300 (fun _ => by kernel_rfl) fun b2 => ?_
        exact Hs.ret (v := .slice (some ⟨b2, 0, none⟩) 2 2) Tryz.func89 (by kernel_rfl) fun w' H => by
          rw [OwnU, e]
          exact ⟨some ⟨b2, 0, none⟩, 2, rfl, H.only, H.freshU 2 [255, 255] (by simp) (by kernel_rfl)⟩
      · have e : mkC t c = [c] := by simp only [mkC, h1, h2, h3, Bool.and_self, Bool.and_false, Bool.false_eq_true, if_false]
        refine Hs.run1 300 (fun _ => by kernel_rfl) fun b2 => ?_
        exact one e (by kernel_rfl) (by kernel_rfl) rfl
    · refine Hs.rung0 [2, 6] 300 (fun _ => by kernel_rfl) ?_
      have e : mkC t c = [c] := by simp only [mkC, h1, h2, Bool.and_false, Bool.false_and, Bool.false_eq_true, if_false]
      refine Hs.condF (by kernel_rfl) ?_
      refine Hs.run1 300 (fun _ => by kernel_rfl) fun b2 => ?_
      exact one e (by kernel_rfl) (by kernel_rfl) rfl
  · refine Hs.rung0 [2, 6] 300 (fun _ => by kernel_rfl) ?_
    have e : mkC t c = [c] := by simp only [mkC, h1, Bool.false_and, Bool.false_eq_true, if_false]
    refine Hs.condF (by kernel_rfl) ?_
    refine Hs.run1 300 (fun _ => by kernel_rfl) fun b2 => ?_
    exact one e (by kernel_rfl) (by kernel_rfl) rfl
def lineC (t : TM) (l : List Int) : List Int := l.flatMap (showC t)
theorem lineC_le (t : TM) : ∀ l : List Int, (lineC t l).length ≤ 2 * l.length
  | [] => by simp [lineC]
  | c :: l => by
    have := lineC_le t l
    have := show_le t c
    simp only [lineC, List.flatMap_cons, List.length_append, List.length_cons] at *
    omega
theorem lineC_snoc (t : TM) (l : List Int) (c : Int) : lineC t (l ++ [c]) = lineC t l ++ showC t c := by simp [lineC]
theorem line_any (t : TM) (A : Option Addr) (cap : Nat) (b : List Int) (w : World) (hb : RdX cu8 w A b) (hle : b.length ≤ cap) (hcap : cap ≤ maxLen) (hn : b.length ≤ 500000) : Calls Tryz.prog 165 #[t.val, .slice A b.length cap] w (OwnU (lineC t b) w fun A cap => .slice A (lineC t b).length cap) := by
  have hlen : b.length ≤ maxLen := Nat.le_trans hle hcap
  have J : ∀ (d i : Nat), b.length - i = d → i ≤ b.length → ∀ (b0 : Nat) (A2 : Option Addr) (c2 n2 : Nat) (l2 : List Int), l2 = lineC t (b.take i) → l2.length = n2 → ∀ (u : Nat → Value), Hs Tryz.prog 165 (OwnU (lineC t b) w fun A cap => .slice A (lineC t b).length cap) (Tryz.f165).ntmps w [] [b0, 0] ⟨.no, loopAt Tryz.f165 0, pins [(2, .c (.p 0 0)), (5, .c (.v (.slice A2 n2 c2))), (8, .c (.v (.slice A b.length cap))), (9, .c (.v (.int .i64 b.length))), (10, .c (.v (.int .i64 i)))] (.vals u), [.b true 26 t.sc, .s A2 c2 n2 5 1 (l2.flatMap cu8)]⟩ := by
    intro d
    induction d with
    | zero =>
      intro i hd hi b0 A2 c2 n2 l2 hl2 hn2 u
      obtain rfl : i = b.length := by omega
      rw [List.take_length] at hl2
      subst hl2
      subst hn2
      refine Hs.run0 300 (fun _ => by kernel_rfl) ?_
      refine Hs.condP ((b.length : Int) < (b.length : Int)) (by kernel_rfl) (fun h => by omega) (fun h => ?_)
      refine Hs.run0 300 (fun _ => by kernel_rfl) ?_
      exact Hs.ret (v := .slice A2 (lineC t b).length c2) Tryz.func165 (by kernel_rfl) fun w' H => ⟨A2, c2, rfl, H.only, H.fresh 1 rfl (by kernel_rfl)⟩
    | succ d ih =>
      intro i hd hi b0 A2 c2 n2 l2 hl2 hn2 u
      have hil : i < b.length := by omega
      obtain ⟨x, hx⟩ : ∃ x, b[i]? = some x := ⟨_, List.getElem?_eq_getElem hil⟩
      have htk : b.take (i + 1) = b.take i ++ [x] := by rw [List.take_add_one, hx]; rfl
      obtain ⟨ab, aoff, hA, _, _⟩ := hb (by omega)
      subst hA
      have hl3 : lineC t (b.take (i + 1)) = l2 ++ showC t x := by rw [htk, lineC_snoc, hl2]
      have hle2 := lineC_le t (b.take i)
      rw [← hl2, hn2, List.length_take, Nat.min_eq_left hi] at hle2
      have hsl := show_le t x
      refine Hs.run0 300 (fun _ => by kernel_rfl) ?_
      refine Hs.condP ((i : Int) < (b.length : Int)) (by kernel_rfl) (fun h => ?_) (fun h => by omega)
      refine Hs.run0 300 (fun _ => by kernel_rfl) ?_
      refine Hs.idx (b := ab) (off := aoff) (c := cap) elemU8 hil (by kernel_rfl) ?_
      refine Hs.ldc (E' := 5) (b := ab) (off := aoff + i * 1) (.int .u8 x) (by kernel_rfl) (fun w' H => u8_cell (hb.only H.only) hx) (by kernel_rfl) ?_
      refine Hs.run0 300 (fun _ => by kernel_rfl) ?_
      refine Hs.callS (cf := cu8) (E := 5) (size := 1) (fun A cap => .slice A (showC t x).length cap) (showC t x) _ rfl (fun w' H => show_any t x w') (by kernel_rfl) (by kernel_rfl) fun A4 c4 h4 h5 => ?_
      refine Hs.app (c := c4) (ty := 27) 1 elemU8 l2 (showC t x) n2 (showC t x).length hn2 rfl cu8_one cu8_len (A := A2) (B := A4) (cap := c2) (by kernel_rfl) (by kernel_rfl) (by kernel_rfl) (fun w' H => H.rdX (A := A4) (cap := c4) (E := 5) (size := 1) 2 rfl (by kernel_rfl)) (by unfold maxLen; omega) (by rw [by_u8]; omega) fun A3 c3 h3 => ?_
      refine Hs.run0 300 (fun _ => by kernel_rfl) ?_
      refine Hs.slot 10 (.c (.v (.int .i64 (i + 1 : Nat)))) rfl ((by kernel_rfl : _ = Value.int .i64 (IntKind.i64.wrap ((i : Int) + 1))).trans (wrap_nextJ hlen)) ?_
      refine Hs.loop (by kernel_rfl) ?_
      exact Hs.goto (loopAt Tryz.f165 0) [0, 1] [.b true 26 t.sc, .s A3 c3 (n2 + (showC t x).length) 5 1 ((l2 ++ showC t x).flatMap cu8)] [(2, .c (.p 0 0)), (5, .c (.v (.slice A3 (n2 + (showC t x).length) c3))), (8, .c (.v (.slice (some ⟨ab, aoff, none⟩) b.length cap))), (9, .c (.v (.int .i64 b.length))), (10, .c (.v (.int .i64 (i + 1 : Nat))))] (by kernel_rfl) (by decide) (by kernel_rfl) (by kernel_rfl) (fun _ => (by kernel_rfl)) (fun u => ih (i + 1) (by omega) (by omega) b0 A3 c3 _ _ hl3.symm (by rw [List.length_append, hn2]) u)
  refine Hs.enter Tryz.func165 [] [] [] [.g t.sc, .c (.v (.slice A b.length cap))] (Mem.start0 w) (by kernel_rfl) (by kernel_rfl) ?_
  refine Hs.run1 300 (fun _ => by kernel_rfl) fun b0 => ?_
  refine Hs.nilS 5 1 (by kernel_rfl) ?_ (by kernel_rfl)
  refine Hs.loop (by kernel_rfl) ?_
  exact Hs.goto (loopAt Tryz.f165 0) [0, 1] [.b true 26 t.sc, .s none 0 0 5 1 (([] : List Int).flatMap cu8)] [(2, .c (.p 0 0)), (5, .c (.v (.slice none 0 0))), (8, .c (.v (.slice A b.length cap))), (9, .c (.v (.int .i64 b.length))), (10, .c (.v (.int .i64 (0 : Nat))))] (by kernel_rfl) (by decide) (by kernel_rfl) (by kernel_rfl) (fun _ => (by kernel_rfl)) (fun u => J b.length 0 (by omega) (by omega) b0 none 0 0 [] rfl rfl u)
end Go.Proofs.YtnfcdbjckdhieaaGreat
