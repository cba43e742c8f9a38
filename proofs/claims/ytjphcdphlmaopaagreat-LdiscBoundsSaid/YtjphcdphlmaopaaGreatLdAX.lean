/- Layer 16: steps: how much they are, and what each does; for all steps; no condition but their size. -/
import Derived.Test.YtjphcdphlmaopaaGreatPkG
import Derived.Test.YtjphcdphlmaopaaGreatLdAW
namespace Go.Proofs.YtjphcdphlmaopaaGreat
set_option linter.all false
set_option maxRecDepth 100000
open Go.RowKit

/-- A step. -/
structure OpM where
  k : Int
  n : Int
  q : Int
  A : Option Addr
  c : Nat
  b : List Int
  t : TM
def OpM.sc (x : OpM) : List SC := [.v (.int .i64 x.k), .v (.int .i64 x.n), .v (.int .i64 x.q), .v (.slice x.A x.b.length x.c)] ++ x.t.sc
def cOp (x : OpM) : List Value := [.int .i64 x.k, .int .i64 x.n, .int .i64 x.q, .slice x.A x.b.length x.c] ++ x.t.cells
theorem cOp_len (x : OpM) : (cOp x).length = 28 := rfl
def OpM.val (x : OpM) : Value := .agg (cOp x).toArray
theorem elemOp : ElemT Tryz.prog 76 79 28 (Tryz.prog.bytesOf 79) := elemT_of (z := .agg (cOp ⟨0, 0, 0, none, 0, [], ⟨fun _ => 0, 0, 0, 0, 0, 0⟩⟩).toArray) (by kernel_rfl) (by kernel_rfl) (by decide) (by decide)
/-- Steps that are read. -/
structure RdOp (w : World) (A : Option Addr) (c : Nat) (xs : List OpM) : Prop where
  rd : RdX cOp w A xs
  le : xs.length ≤ c
  cap : c ≤ maxLen
  all : ∀ x ∈ xs, RdU w x.A x.c x.b
theorem RdOp.only {w w' : World} {A : Option Addr} {c : Nat} {xs : List OpM} (h : RdOp w A c xs) (O : Only [] w w') : RdOp w' A c xs := ⟨h.rd.only O, h.le, h.cap, fun x hx => (h.all x hx).only O⟩
def minB (x : OpM) : Int := if (100000 : Int) < (x.b.length : Int) then 100000 else x.b.length
def heavyQ (xs : List OpM) : Int := xs.foldl (fun q x => IntKind.i64.wrap (q + minB x)) 0
theorem heavyQ_snoc (xs : List OpM) (x : OpM) : heavyQ (xs ++ [x]) = IntKind.i64.wrap (heavyQ xs + minB x) := by simp [heavyQ]
def heavyB (xs : List OpM) : Bool := decide ((xs.length : Int) > 60) || decide (heavyQ xs > 3000)
theorem heavy_go : ∀ (xs : List OpM) (q : Int), 0 ≤ q → q + 100000 * xs.length ≤ 4611686018427387904 → q ≤ xs.foldl (fun q x => IntKind.i64.wrap (q + minB x)) q ∧ ∀ x ∈ xs, q + minB x ≤ xs.foldl (fun q x => IntKind.i64.wrap (q + minB x)) q
  | [], q, _, _ => ⟨Int.le_refl _, fun x hx => by cases hx⟩
  | y :: l, q, h0, h1 => by
    rw [List.length_cons] at h1
    have h2 : 0 ≤ minB y ∧ minB y ≤ 100000 := by unfold minB; split <;> omega
    have e : IntKind.i64.wrap (q + minB y) = q + minB y := IntWalk.i64_in _ (by omega)
    rw [List.foldl_cons, e]
    have ih := heavy_go l (q + minB y) (by omega) (by push_cast at h1; omega)
    refine ⟨by omega, fun x hx => ?_⟩
    rcases List.mem_cons.1 hx with rfl | hx
    · exact ih.1
    · have := ih.2 x hx; omega
theorem heavy_few {xs : List OpM} (h : heavyB xs = false) : xs.length ≤ 60 ∧ ∀ x ∈ xs, x.b.length ≤ 3000 := by
  unfold heavyB at h
  simp at h
  refine ⟨by omega, fun x hx => ?_⟩
  have h2 := (heavy_go xs 0 (by omega) (by omega)).2 x hx
  have h3 : minB x ≤ 3000 := by
    have h4 := h.2
    unfold heavyQ at h4
    omega
  unfold minB at h3
  split at h3 <;> omega
set_option maxHeartbeats 2000000 in
theorem heavy_any (A : Option Addr) (c : Nat) (xs : List OpM) (w : World) (hr : RdOp w A c xs) : Calls Tryz.prog 29 #[.slice A xs.length c] w fun e w' => e = .returned (.bool (heavyB xs)) ∧ Only [] w w' := by
  have hm : xs.length ≤ maxLen := Nat.le_trans hr.le hr.cap
  have J : ∀ (d i : Nat), xs.length - i = d → i ≤ xs.length → ∀ (q : Int), q = heavyQ (xs.take i) → ∀ (u : Nat → Value), Hs Tryz.prog 29 (fun e w' => e = .returned (.bool (heavyB xs)) ∧ Only [] w w') (Tryz.f29).ntmps w [] [] ⟨.no, loopAt Tryz.f29 0, pins [(0, .c (.v (.slice A xs.length c))), (3, .c (.v (.int .i64 q))), (6, .c (.v (.slice A xs.length c))), (7, .c (.v (.int .i64 xs.length))), (8, .c (.v (.int .i64 i)))] (.vals u), []⟩ := by
    intro d
    induction d with
    | zero =>
      intro i hd hi q hq u
      obtain rfl : i = xs.length := by omega
      rw [List.take_length] at hq
      subst hq
      refine Hs.run0 300 (fun _ => by kernel_rfl) ?_
      refine Hs.condP ((xs.length : Int) < (xs.length : Int)) (by kernel_rfl) (fun h => by omega) (fun h => ?_)
      refine Hs.run0 300 (fun _ => by kernel_rfl) ?_
      unfold heavyB
      refine Hs.bool 22 (decide ((xs.length : Int) > 60)) (by kernel_rfl) (fun h1 => ?_) (fun h1 => ?_)
      · refine Hs.rung0 [3] 300 (fun _ => by kernel_rfl) ?_
        exact Hs.ret (v := .bool true) Tryz.func29 (by kernel_rfl) fun w' H => ⟨by rw [h1]; rfl, H.only⟩
      · refine Hs.rung0 [3] 300 (fun _ => by kernel_rfl) ?_
        exact Hs.ret (v := .bool (decide (heavyQ xs > 3000))) Tryz.func29 (by kernel_rfl) fun w' H => ⟨by rw [h1]; rfl, H.only⟩
    | succ d ih =>
      intro i hd hi q hq u
      have hil : i < xs.length := by omega
      obtain ⟨x, hx⟩ : ∃ x, xs[i]? = some x := ⟨_, List.getElem?_eq_getElem hil⟩
      obtain ⟨ab, aoff, hA, _, _⟩ := hr.rd (by omega)
      subst hA
      have hs : heavyQ (xs.take (i + 1)) = IntKind.i64.wrap (q + minB x) := by
        rw [List.take_add_one, hx, hq]
        exact heavyQ_snoc _ _
      refine Hs.run0 300 (fun _ => by kernel_rfl) ?_
      refine Hs.condP ((i : Int) < (xs.length : Int)) (by kernel_rfl) (fun h => ?_) (fun h => by omega)
      refine Hs.run0 300 (fun _ => by kernel_rfl) ?_
      refine Hs.idx (b := ab) (off := aoff) (c := c) elemOp hil (by kernel_rfl) ?_
      refine Hs.ldx (cf := cOp) (size := 28) (E := 79) (b := ab) (off := aoff) (i := i) (l := xs) (x := x) cOp_len (.g x.sc) (by kernel_rfl) (fun w' H => hr.rd.only H.only) hx (by kernel_rfl) (by kernel_rfl) rfl (by kernel_rfl) ?_
      refine Hs.run1 300 (fun _ => by kernel_rfl) fun b0 => ?_
      refine Hs.slot 8 (.c (.v (.int .i64 (i + 1 : Nat)))) rfl ((by kernel_rfl : _ = Value.int .i64 (IntKind.i64.wrap ((i : Int) + 1))).trans (wrap_nextJ hm)) ?_
      refine Hs.loop (by kernel_rfl) ?_
      exact Hs.goto (loopAt Tryz.f29 0) [] [] [(0, .c (.v (.slice (some ⟨ab, aoff, none⟩) xs.length c))), (3, .c (.v (.int .i64 (IntKind.i64.wrap (q + minB x))))), (6, .c (.v (.slice (some ⟨ab, aoff, none⟩) xs.length c))), (7, .c (.v (.int .i64 xs.length))), (8, .c (.v (.int .i64 (i + 1 : Nat))))] (by kernel_rfl) (by decide) (by kernel_rfl) (by kernel_rfl) (fun _ => (by kernel_rfl)) (fun u => ih (i + 1) (by omega) (by omega) _ hs.symm u)
  refine Hs.enter Tryz.func29 [] [] [] [.c (.v (.slice A xs.length c))] (Mem.start0 w) (by kernel_rfl) (by kernel_rfl) ?_
  refine Hs.run0 300 (fun _ => by kernel_rfl) ?_
  refine Hs.loop (by kernel_rfl) ?_
  exact Hs.goto (loopAt Tryz.f29 0) [] [] [(0, .c (.v (.slice A xs.length c))), (3, .c (.v (.int .i64 0))), (6, .c (.v (.slice A xs.length c))), (7, .c (.v (.int .i64 xs.length))), (8, .c (.v (.int .i64 (0 : Nat))))] (by kernel_rfl) (by decide) (by kernel_rfl) (by kernel_rfl) (fun _ => (by kernel_rfl)) (fun u => J xs.length 0 (by omega) (by omega) 0 rfl u)
end Go.Proofs.YtjphcdphlmaopaaGreat
