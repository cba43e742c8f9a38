/- Layer 17: are a terminal and steps more than is looked at; for all terminals and steps; no condition but the lengths of their slices. -/
import Derived.Test.YtnfcdbjckdhieaaGreatPtJ
namespace Go.Proofs.YtnfcdbjckdhieaaGreat
set_option linter.all false
set_option maxRecDepth 100000
open Go.RowKit

/-- Steps that are read. -/
structure RdOQ (w : World) (A : Option Addr) (c : Nat) (xs : List OQ) : Prop where
  rd : RdX cOQ w A xs
  le : xs.length ≤ c
  cap : c ≤ maxLen
  all : ∀ x ∈ xs, RdU w x.A x.c x.b
theorem RdOQ.only {w w' : World} {A : Option Addr} {c : Nat} {xs : List OQ} (h : RdOQ w A c xs) (O : Only [] w w') : RdOQ w' A c xs := ⟨h.rd.only O, h.le, h.cap, fun x hx => (h.all x hx).only O⟩
def opQ (x : OQ) : Int := if 100000 < (x.b.length : Int) then 100000 else (x.b.length : Int)
def addQ (n : Int) (l : List OQ) : Int := l.foldl (fun n x => IntKind.i64.wrap (n + opQ x)) n
theorem addQ_snoc (n : Int) (l : List OQ) (x : OQ) : addQ n (l ++ [x]) = IntKind.i64.wrap (addQ n l + opQ x) := by simp [addQ]
def greatQ (d : DM) (xs : List OQ) : Bool := decide (addQ (addN (great0 d) d.lines) xs > 12000) || (decide ((xs.length : Int) > 60) || decide ((d.lines.length : Int) > 2000))
set_option maxHeartbeats 4000000 in
theorem great17_any (x : PM) (d : DM) (s : DS) (A : Option Addr) (cap : Nat) (xs : List OQ) (w : World) (h : Data s d w) (hx : RdOQ w A cap xs) : Calls Tryz.prog 9 #[.agg (lptyV x d s).toArray, .slice A xs.length cap] w fun e w' => e = .returned (.bool (greatQ d xs)) ∧ Only [] w w' := by
  have hmap := h.map
  have hll := h.llen
  have hrd := h.lines.rd
  have hlen : d.lines.length ≤ maxLen := by rw [← hll]; exact Nat.le_trans h.lines.le h.lines.cap
  have hm : xs.length ≤ maxLen := Nat.le_trans hx.le hx.cap
  have K : ∀ (e i : Nat), xs.length - i = e → i ≤ xs.length → ∀ (b0 : Nat) (u : Nat → Value), Hs Tryz.prog 9 (fun e w' => e = .returned (.bool (greatQ d xs)) ∧ Only [] w w') (Tryz.f9).ntmps w [] [b0] ⟨.no, loopAt Tryz.f9 1, pins [(1, .c (.v (.slice A xs.length cap))), (2, .c (.p 0 0)), (5, .c (.v (.int .i64 (addQ (addN (great0 d) d.lines) (xs.take i))))), (38, .c (.v (.slice A xs.length cap))), (39, .c (.v (.int .i64 xs.length))), (40, .c (.v (.int .i64 i)))] (.vals u), [.b true 34 (lptySC x d s)]⟩ := by
    intro e
    induction e with
    | zero =>
      intro i hd hi b0 u
      obtain rfl : i = xs.length := by omega
      rw [List.take_length]
      refine Hs.run0 300 (fun _ => by kernel_rfl) ?_
      refine Hs.condP ((xs.length : Int) < (xs.length : Int)) (by kernel_rfl) (fun h => by omega) (fun _ => ?_)
      unfold greatQ
      refine Hs.run0 300 (fun _ => by kernel_rfl) ?_
      refine Hs.bool 53 (decide (addQ (addN (great0 d) d.lines) xs > 12000)) (by kernel_rfl) (fun h1 => ?_) (fun h1 => ?_)
      · refine Hs.rung0 [2, 7] 300 (fun _ => by kernel_rfl) ?_
        exact Hs.ret (v := .bool true) Tryz.func9 (by kernel_rfl) fun w' H => ⟨by rw [h1]; rfl, H.only⟩
      · refine Hs.rung0 [2] 300 (fun _ => by kernel_rfl) ?_
        refine Hs.bool 58 (decide ((xs.length : Int) > 60)) (by kernel_rfl) (fun h2 => ?_) (fun h2 => ?_)
        · refine Hs.rung0 [2, 7] 300 (fun _ => by kernel_rfl) ?_
          exact Hs.ret (v := .bool true) Tryz.func9 (by kernel_rfl) fun w' H => ⟨by rw [h1, h2]; rfl, H.only⟩
        · refine Hs.rung0 [2, 7] 300 (fun _ => by kernel_rfl) ?_
          exact Hs.ret (v := .bool (decide ((d.lines.length : Int) > 2000))) Tryz.func9 (by kernel_rfl) fun w' H => ⟨by rw [h1, h2]; simp, H.only⟩
    | succ e ih =>
      intro i hd hi b0 u
      have hil : i < xs.length := by omega
      obtain ⟨y, hyi⟩ : ∃ y, xs[i]? = some y := ⟨_, List.getElem?_eq_getElem hil⟩
      obtain ⟨ab, aoff, hA, _, _⟩ := hx.rd (by omega)
      have hih := fun u => ih (i + 1) (by omega) (by omega) b0 u
      rw [List.take_add_one, hyi] at hih
      rw [show xs.take i ++ (some y).toList = xs.take i ++ [y] from rfl, addQ_snoc] at hih
      have hrx := hx.rd
      rw [hA] at hih hrx ⊢
      refine Hs.run0 300 (fun _ => by kernel_rfl) ?_
      refine Hs.condP ((i : Int) < (xs.length : Int)) (by kernel_rfl) (fun _ => ?_) (fun h => by omega)
      refine Hs.run0 300 (fun _ => by kernel_rfl) ?_
      refine Hs.idx (b := ab) (off := aoff) (len := xs.length) (c := cap) (i := i) elemOQ hil (by kernel_rfl) ?_
      refine Hs.ldx (cf := cOQ) (size := 32) (E := 80) (b := ab) (off := aoff) (i := i) (l := xs) (x := y) cOQ_len (.g y.sc) (by kernel_rfl) (fun w' H => hrx.only H.only) hyi (by kernel_rfl) (by kernel_rfl) rfl (by kernel_rfl) ?_
      refine Hs.run1 300 (fun _ => by kernel_rfl) fun b1 => ?_
      refine Hs.slot 40 (.c (.v (.int .i64 (i + 1 : Nat)))) rfl ((by kernel_rfl : _ = Value.int .i64 (IntKind.i64.wrap ((i : Int) + 1))).trans (wrap_nextJ hm)) ?_
      refine Hs.loop (by kernel_rfl) ?_
      exact Hs.goto (loopAt Tryz.f9 1) [0] [.b true 34 (lptySC x d s)] [(1, .c (.v (.slice (some ⟨ab, aoff, none⟩) xs.length cap))), (2, .c (.p 0 0)), (5, .c (.v (.int .i64 (IntKind.i64.wrap (addQ (addN (great0 d) d.lines) (xs.take i) + opQ y))))), (38, .c (.v (.slice (some ⟨ab, aoff, none⟩) xs.length cap))), (39, .c (.v (.int .i64 xs.length))), (40, .c (.v (.int .i64 (i + 1 : Nat))))] (by kernel_rfl) (by decide) (by kernel_rfl) (by kernel_rfl) (fun _ => (by kernel_rfl)) (fun u => hih u)
  have J : ∀ (e i : Nat), d.lines.length - i = e → i ≤ d.lines.length → ∀ (b0 : Nat) (u : Nat → Value), Hs Tryz.prog 9 (fun e w' => e = .returned (.bool (greatQ d xs)) ∧ Only [] w w') (Tryz.f9).ntmps w [] [b0] ⟨.no, loopAt Tryz.f9 0, pins [(1, .c (.v (.slice A xs.length cap))), (2, .c (.p 0 0)), (5, .c (.v (.int .i64 (addN (great0 d) (d.lines.take i))))), (26, .c (.v (.slice s.sa d.lines.length s.sc))), (27, .c (.v (.int .i64 d.lines.length))), (28, .c (.v (.int .i64 i)))] (.vals u), [.b true 34 (lptySC x d s)]⟩ := by
    intro e
    induction e with
    | zero =>
      intro i hd hi b0 u
      obtain rfl : i = d.lines.length := by omega
      rw [List.take_length]
      refine Hs.run0 300 (fun _ => by kernel_rfl) ?_
      refine Hs.condP ((d.lines.length : Int) < (d.lines.length : Int)) (by kernel_rfl) (fun h => by omega) (fun _ => ?_)
      refine Hs.run0 300 (fun _ => by kernel_rfl) ?_
      refine Hs.loop (by kernel_rfl) ?_
      exact Hs.goto (loopAt Tryz.f9 1) [0] [.b true 34 (lptySC x d s)] [(1, .c (.v (.slice A xs.length cap))), (2, .c (.p 0 0)), (5, .c (.v (.int .i64 (addN (great0 d) d.lines)))), (38, .c (.v (.slice A xs.length cap))), (39, .c (.v (.int .i64 xs.length))), (40, .c (.v (.int .i64 (0 : Nat))))] (by kernel_rfl) (by decide) (by kernel_rfl) (by kernel_rfl) (fun _ => (by kernel_rfl)) (fun u => K xs.length 0 (by omega) (by omega) b0 u)
    | succ e ih =>
      intro i hd hi b0 u
      have hil : i < d.lines.length := by omega
      obtain ⟨y, hyi⟩ : ∃ y, s.xs[i]? = some y := ⟨_, List.getElem?_eq_getElem (by omega)⟩
      have hmi : d.lines[i]? = some y.m := by rw [← hmap, List.getElem?_map, hyi]; rfl
      obtain ⟨ab, aoff, hA, _, _⟩ := hrd (by omega)
      have hih := fun u => ih (i + 1) (by omega) (by omega) b0 u
      rw [List.take_add_one, hmi] at hih
      rw [show d.lines.take i ++ (some y.m).toList = d.lines.take i ++ [y.m] from rfl, addN_snoc] at hih
      rw [hA] at hih ⊢
      rw [hA] at hrd
      refine Hs.run0 300 (fun _ => by kernel_rfl) ?_
      refine Hs.condP ((i : Int) < (d.lines.length : Int)) (by kernel_rfl) (fun _ => ?_) (fun h => by omega)
      refine Hs.run0 300 (fun _ => by kernel_rfl) ?_
      refine Hs.idx (b := ab) (off := aoff) (len := d.lines.length) (c := s.sc) (i := i) elemLn16 hil (by kernel_rfl) ?_
      refine Hs.ldx (cf := cLn) (size := 2) (E := 103) (b := ab) (off := aoff) (i := i) (l := s.xs) (x := y) cLn_len (.g y.sc) (by kernel_rfl) (fun w' H => hrd.only H.only) hyi (by kernel_rfl) (by kernel_rfl) rfl (by kernel_rfl) ?_
      refine Hs.run1 300 (fun _ => by kernel_rfl) fun b1 => ?_
      refine Hs.slot 28 (.c (.v (.int .i64 (i + 1 : Nat)))) rfl ((by kernel_rfl : _ = Value.int .i64 (IntKind.i64.wrap ((i : Int) + 1))).trans (wrap_nextJ hlen)) ?_
      refine Hs.loop (by kernel_rfl) ?_
      exact Hs.goto (loopAt Tryz.f9 0) [0] [.b true 34 (lptySC x d s)] [(1, .c (.v (.slice A xs.length cap))), (2, .c (.p 0 0)), (5, .c (.v (.int .i64 (IntKind.i64.wrap (addN (great0 d) (d.lines.take i) + (y.m.1.length : Int)))))), (26, .c (.v (.slice (some ⟨ab, aoff, none⟩) d.lines.length s.sc))), (27, .c (.v (.int .i64 d.lines.length))), (28, .c (.v (.int .i64 (i + 1 : Nat))))] (by kernel_rfl) (by decide) (by kernel_rfl) (by kernel_rfl) (fun _ => (by kernel_rfl)) (fun u => hih u)
  refine Hs.enter Tryz.func9 [] [] [] [.g (lptySC x d s), .c (.v (.slice A xs.length cap))] (Mem.start0 w) (by kernel_rfl) (by kernel_rfl) ?_
  refine Hs.run1 300 (fun _ => by kernel_rfl) fun b0 => ?_
  refine Hs.loop (by kernel_rfl) ?_
  exact Hs.goto (loopAt Tryz.f9 0) [0] [.b true 34 (lptySC x d s)] [(1, .c (.v (.slice A xs.length cap))), (2, .c (.p 0 0)), (5, .c (.v (.int .i64 (great0 d)))), (26, .c (.v (.slice s.sa d.lines.length s.sc))), (27, .c (.v (.int .i64 d.lines.length))), (28, .c (.v (.int .i64 (0 : Nat))))] (by kernel_rfl) (by decide) (by kernel_rfl) (by kernel_rfl) (fun _ => (by kernel_rfl)) (fun u => J d.lines.length 0 (by omega) (by omega) b0 u)
theorem addQ_eq : ∀ (l : List OQ) (n : Int), 0 ≤ n → n + (l.length : Int) * 100000 ≤ 9000000000000000000 → n ≤ addQ n l ∧ ∀ x ∈ l, n + opQ x ≤ addQ n l
  | [], n, _, _ => ⟨Int.le_refl _, by simp⟩
  | x :: l, n, h0, h1 => by
    simp only [List.length_cons] at h1
    have hx : 0 ≤ opQ x ∧ opQ x ≤ 100000 := by unfold opQ; split <;> omega
    have e : IntKind.i64.wrap (n + opQ x) = n + opQ x := IntWalk.i64_in _ (by omega)
    have ih := addQ_eq l (n + opQ x) (by omega) (by omega)
    show n ≤ addQ (IntKind.i64.wrap (n + opQ x)) l ∧ _
    have e3 : addQ n (x :: l) = addQ (n + opQ x) l := by show addQ (IntKind.i64.wrap (n + opQ x)) l = _; rw [e]
    rw [e3, e]
    refine ⟨by omega, fun y hy => ?_⟩
    rcases List.mem_cons.1 hy with rfl | hy
    · exact ih.1
    · have := ih.2 y hy; omega
/-- What isn't more than is looked at. -/
theorem greatQ_few {d : DM} {xs : List OQ} (hL : LenOk d) (h : greatQ d xs = false) : Few d ∧ usedD d ≤ 14000 ∧ d.out.length ≤ 14000 ∧ zeroN d.lines ≤ 2000 ∧ xs.length ≤ 60 ∧ ∀ x ∈ xs, x.b.length ≤ 12000 := by
  unfold greatQ at h
  simp only [Bool.or_eq_false_iff, decide_eq_false_iff_not] at h
  obtain ⟨h1, h2, h3⟩ := h
  have l1 : d.line.length ≤ 140737488355328 := hL.line
  have l2 : d.raw.length ≤ 140737488355328 := hL.raw
  have l3 : d.out.length ≤ 140737488355328 := hL.out
  have e0 : great0 d = (d.line.length : Int) + (d.raw.length : Int) + (d.out.length : Int) := by
    unfold great0
    rw [IntWalk.i64_in ((d.line.length : Int) + (d.raw.length : Int)) (by omega), IntWalk.i64_in _ (by omega)]
  have e1 := addN_eq d.lines (great0 d) hL.txt (by omega) (by omega)
  have hs : ((d.lines.map fun p => p.1.length).sum : Nat) ≤ d.lines.length * 140737488355328 := by
    have : ∀ l : List (List Int × Bool), (∀ p ∈ l, p.1.length ≤ 140737488355328) → (l.map fun p => p.1.length).sum ≤ l.length * 140737488355328 := by
      intro l
      induction l with
      | nil => simp
      | cons p l ih =>
        intro hp
        have a := hp p List.mem_cons_self
        have b := ih fun q hq => hp q (List.mem_cons_of_mem _ hq)
        simp only [List.map_cons, List.sum_cons, List.length_cons]
        omega
    exact this _ hL.txt
  have q := addQ_eq xs (addN (great0 d) d.lines) (by omega) (by omega)
  have hn : addN (great0 d) d.lines ≤ 12000 := by omega
  have hg : greatD d = false := by
    unfold greatD
    simp only [Bool.or_eq_false_iff, decide_eq_false_iff_not]
    exact ⟨by omega, h3⟩
  have hf := few_of hL hg
  have hz : zeroN d.lines ≤ d.lines.length := List.length_filter_le _ _
  refine ⟨hf.1, by unfold usedD; omega, by omega, by omega, by omega, fun x hx => ?_⟩
  have := q.2 x hx
  unfold opQ at this
  split at this <;> omega
end Go.Proofs.YtnfcdbjckdhieaaGreat
