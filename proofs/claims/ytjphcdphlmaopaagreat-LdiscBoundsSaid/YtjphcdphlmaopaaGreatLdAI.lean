/- Layer 16: is a discipline more than is looked at; for all disciplines; no condition but the lengths of its slices. -/
import Derived.Test.YtjphcdphlmaopaaGreatLdAH
namespace Go.Proofs.YtjphcdphlmaopaaGreat
set_option linter.all false
set_option maxRecDepth 100000
open Go.RowKit

def addN (n : Int) (l : List (List Int × Bool)) : Int := l.foldl (fun n p => IntKind.i64.wrap (n + (p.1.length : Int))) n
def great0 (d : DM) : Int := IntKind.i64.wrap (IntKind.i64.wrap ((d.line.length : Int) + (d.raw.length : Int)) + (d.out.length : Int))
def greatD (d : DM) : Bool := decide (addN (great0 d) d.lines > 12000) || decide ((d.lines.length : Int) > 2000)
theorem addN_snoc (n : Int) (l : List (List Int × Bool)) (p : List Int × Bool) : addN n (l ++ [p]) = IntKind.i64.wrap (addN n l + (p.1.length : Int)) := by simp [addN]
/-- The slices' lengths may be. -/
structure LenOk (d : DM) : Prop where
  line : d.line.length ≤ 140737488355328
  raw : d.raw.length ≤ 140737488355328
  out : d.out.length ≤ 140737488355328
  txt : ∀ p ∈ d.lines, p.1.length ≤ 140737488355328
theorem addN_eq : ∀ (l : List (List Int × Bool)) (n : Int), (∀ p ∈ l, p.1.length ≤ 140737488355328) → 0 ≤ n → n + (l.length : Int) * 140737488355328 ≤ 9000000000000000000 → addN n l = n + (((l.map fun p => p.1.length).sum : Nat) : Int)
  | [], n, _, _, _ => by simp [addN]
  | p :: l, n, hp, h0, h1 => by
    have hp0 : p.1.length ≤ 140737488355328 := hp p List.mem_cons_self
    simp only [List.length_cons] at h1
    have e : IntKind.i64.wrap (n + (p.1.length : Int)) = n + (p.1.length : Int) := IntWalk.i64_in _ (by omega)
    have ih := addN_eq l (n + (p.1.length : Int)) (fun q hq => hp q (List.mem_cons_of_mem _ hq)) (by omega) (by omega)
    show addN (IntKind.i64.wrap (n + (p.1.length : Int))) l = _
    rw [e, ih]
    simp only [List.map_cons, List.sum_cons]
    omega
theorem used_sum : ∀ l : List (List Int × Bool), usedM l ≤ (l.map fun p => p.1.length).sum + l.length
  | [] => by simp [usedM]
  | p :: l => by
    have ih := used_sum l
    have e : usedM (p :: l) = sizeM p + usedM l := by simp [usedM]
    have e2 : sizeM p ≤ p.1.length + 1 := by unfold sizeM eofN; split <;> omega
    simp only [List.map_cons, List.sum_cons, List.length_cons]
    omega
theorem few_of {d : DM} (hL : LenOk d) (h : greatD d = false) : Few d ∧ d.line.length + d.raw.length + d.out.length + usedM d.lines ≤ 14000 := by
  unfold greatD at h
  simp only [Bool.or_eq_false_iff, decide_eq_false_iff_not] at h
  obtain ⟨h1, h2⟩ := h
  have l1 : d.line.length ≤ 140737488355328 := hL.line
  have l2 : d.raw.length ≤ 140737488355328 := hL.raw
  have l3 : d.out.length ≤ 140737488355328 := hL.out
  have e0 : great0 d = (d.line.length : Int) + (d.raw.length : Int) + (d.out.length : Int) := by
    unfold great0
    rw [IntWalk.i64_in ((d.line.length : Int) + (d.raw.length : Int)) (by omega), IntWalk.i64_in _ (by omega)]
  rw [addN_eq d.lines (great0 d) hL.txt (by omega) (by omega), e0] at h1
  have hu := used_sum d.lines
  have hz : zeroN d.lines ≤ d.lines.length := List.length_filter_le _ _
  exact ⟨⟨by omega, by omega, by omega, by omega, by omega⟩, by omega⟩
theorem great16_any (d : DM) (s : DS) (w : World) (h : Data s d w) (hL : LenOk d) : Calls Tryz.prog 10 #[.agg (discV d s).toArray] w fun e w' => e = .returned (.bool (greatD d)) ∧ Only [] w w' := by
  have hmap := h.map
  have hll := h.llen
  have hrd := h.lines.rd
  have hlen : d.lines.length ≤ maxLen := by rw [← hll]; exact Nat.le_trans h.lines.le h.lines.cap
  have J : ∀ (e i : Nat), d.lines.length - i = e → i ≤ d.lines.length → ∀ (b0 : Nat) (u : Nat → Value), Hs Tryz.prog 10 (fun e w' => e = .returned (.bool (greatD d)) ∧ Only [] w w') (Tryz.f10).ntmps w [] [b0] ⟨.no, loopAt Tryz.f10 0, pins [(1, .c (.p 0 0)), (3, .c (.v (.int .i64 (addN (great0 d) (d.lines.take i))))), (18, .c (.v (.slice s.sa d.lines.length s.sc))), (19, .c (.v (.int .i64 d.lines.length))), (20, .c (.v (.int .i64 i)))] (.vals u), [.b true 30 (discSC d s)]⟩ := by
    intro e
    induction e with
    | zero =>
      intro i hd hi b0 u
      obtain rfl : i = d.lines.length := by omega
      rw [List.take_length]
      refine Hs.run0 300 (fun _ => by kernel_rfl) ?_
      refine Hs.condP ((d.lines.length : Int) < (d.lines.length : Int)) (by kernel_rfl) (fun h => by omega) (fun _ => ?_)
      refine Hs.run0 300 (fun _ => by kernel_rfl) ?_
      unfold greatD
      refine Hs.bool 32 (decide (addN (great0 d) d.lines > 12000)) (by kernel_rfl) (fun h1 => ?_) (fun h1 => ?_)
      · refine Hs.rung0 [2] 300 (fun _ => by kernel_rfl) ?_
        exact Hs.ret (v := .bool true) Tryz.func10 (by kernel_rfl) fun w' H => ⟨by rw [h1]; rfl, H.only⟩
      · refine Hs.rung0 [2] 300 (fun _ => by kernel_rfl) ?_
        exact Hs.ret (v := .bool (decide ((d.lines.length : Int) > 2000))) Tryz.func10 (by kernel_rfl) fun w' H => ⟨by rw [h1]; rfl, H.only⟩
    | succ e ih =>
      intro i hd hi b0 u
      have hil : i < d.lines.length := by omega
      obtain ⟨x, hxi⟩ : ∃ x, s.xs[i]? = some x := ⟨_, List.getElem?_eq_getElem (by omega)⟩
      have hmi : d.lines[i]? = some x.m := by rw [← hmap, List.getElem?_map, hxi]; rfl
      obtain ⟨ab, aoff, hA, _, _⟩ := hrd (by omega)
      have hih := fun u => ih (i + 1) (by omega) (by omega) b0 u
      rw [List.take_add_one, hmi] at hih
      rw [show d.lines.take i ++ (some x.m).toList = d.lines.take i ++ [x.m] from rfl, addN_snoc] at hih
      rw [hA] at hih ⊢
      rw [hA] at hrd
      refine Hs.run0 300 (fun _ => by kernel_rfl) ?_
      refine Hs.condP ((i : Int) < (d.lines.length : Int)) (by kernel_rfl) (fun _ => ?_) (fun h => by omega)
      refine Hs.run0 300 (fun _ => by kernel_rfl) ?_
      refine Hs.idx (b := ab) (off := aoff) (len := d.lines.length) (c := s.sc) (i := i) elemLn16 hil (by kernel_rfl) ?_
      refine Hs.ldx (cf := cLn) (size := 2) (E := 89) (b := ab) (off := aoff) (i := i) (l := s.xs) (x := x) cLn_len (.g x.sc) (by kernel_rfl) (fun w' H => hrd.only H.only) hxi (by kernel_rfl) (by kernel_rfl) rfl (by kernel_rfl) ?_
      refine Hs.run1 300 (fun _ => by kernel_rfl) fun b1 => ?_
      refine Hs.slot 20 (.c (.v (.int .i64 (i + 1 : Nat)))) rfl ((by kernel_rfl : _ = Value.int .i64 (IntKind.i64.wrap ((i : Int) + 1))).trans (wrap_nextJ hlen)) ?_
      refine Hs.loop (by kernel_rfl) ?_
      exact Hs.goto (loopAt Tryz.f10 0) [0] [.b true 30 (discSC d s)] [(1, .c (.p 0 0)), (3, .c (.v (.int .i64 (IntKind.i64.wrap (addN (great0 d) (d.lines.take i) + (x.m.1.length : Int)))))), (18, .c (.v (.slice (some ⟨ab, aoff, none⟩) d.lines.length s.sc))), (19, .c (.v (.int .i64 d.lines.length))), (20, .c (.v (.int .i64 (i + 1 : Nat))))] (by kernel_rfl) (by decide) (by kernel_rfl) (by kernel_rfl) (fun _ => (by kernel_rfl)) hih
  refine Hs.enter Tryz.func10 [] [] [] [.g (discSC d s)] (Mem.start0 w) (by kernel_rfl) (by kernel_rfl) ?_
  refine Hs.run1 300 (fun _ => by kernel_rfl) fun b0 => ?_
  refine Hs.loop (by kernel_rfl) ?_
  exact Hs.goto (loopAt Tryz.f10 0) [0] [.b true 30 (discSC d s)] [(1, .c (.p 0 0)), (3, .c (.v (.int .i64 (great0 d)))), (18, .c (.v (.slice s.sa d.lines.length s.sc))), (19, .c (.v (.int .i64 d.lines.length))), (20, .c (.v (.int .i64 (0 : Nat))))] (by kernel_rfl) (by decide) (by kernel_rfl) (by kernel_rfl) (fun _ => (by kernel_rfl)) (fun u => J d.lines.length 0 (by omega) (by omega) b0 u)
end Go.Proofs.YtjphcdphlmaopaaGreat
