/- Layer 17: a terminal that is handed in, made; is it more than is looked at; for all terminals; no condition but the lengths of its slices. -/
import Derived.Test.YtnfcdbjckdhieaaGreatEngAJ
import Derived.Test.YtnfcdbjckdhieaaGreatLdAI
import Derived.Test.YtnfcdbjckdhieaaGreatPtD
namespace Go.Proofs.YtnfcdbjckdhieaaGreat
set_option linter.all false
set_option maxRecDepth 100000
open Go.RowKit

def ptTail (x : PM) : List Value := [.int .u32 x.co, .int .u32 x.ro, .int .u32 x.wi, .int .u32 x.he, .int .i64 x.ses, .int .i64 x.grp, .int .i64 x.sl, .bool x.hung]
def ptTailS (x : PM) : List SC := [.v (.int .u32 x.co), .v (.int .u32 x.ro), .v (.int .u32 x.wi), .v (.int .u32 x.he), .v (.int .i64 x.ses), .v (.int .i64 x.grp), .v (.int .i64 x.sl), .v (.bool x.hung)]
/-- A terminal handed in. -/
def lptyV (x : PM) (d : DM) (s : DS) : List Value := discV d s ++ ptTail x
def lptySC (x : PM) (d : DM) (s : DS) : List SC := discSC d s ++ ptTailS x
theorem Data.only17 {s : DS} {d : DM} {w w' : World} (h : Data s d w) (O : Only [] w w') : Data s d w' := ⟨h.line.only O, h.lines.only O, h.map, h.raw.only O, h.out.only O⟩
theorem to17_any (x : PM) (d : DM) (s : DS) (w : World) (h : Data s d w) (hf : Few d) : Calls Tryz.prog 10 #[.agg (lptyV x d s).toArray] w (NewB2 w 42 96 (fun _ g => ptyV x g) (fun s' => discV d s') (fun s' => Data s' d)) := by
  refine Hs.enter Tryz.func10 [] [] [] [.g (lptySC x d s)] (Mem.start0 w) (by kernel_rfl) (by kernel_rfl) ?_
  refine Hs.run1 300 (fun _ => by kernel_rfl) fun b0 => ?_
  refine Hs.any [0] (by kernel_rfl) ?_
  refine Hs.run0 300 (fun _ => by kernel_rfl) ?_
  refine Hs.callB0 1 (fun s' => discSC d s') (Nx.start w) (fun w' H => to16_any d s w' (h.only17 H.only) hf) (fun β x => rfl) (fun x j => disc_wf _ _ _) (by kernel_rfl) (by kernel_rfl) fun g s1 w1 L1 N1 => ?_
  refine Hs.run1 300 (fun _ => by kernel_rfl) fun p => ?_
  exact Hs.ret (v := .pointer (some ⟨p, 0, none⟩)) Tryz.func10 (by kernel_rfl) fun w' H => N1.newB2 H 2 1 s1 rfl rfl (by kernel_rfl : _ = some (HB.b true 42 ((ptyV x g).map SC.v))) (by kernel_rfl : _ = some (HB.b true 96 (discSC d s1))) (by decide) rfl rfl fun w h => h.1
def great17B (d : DM) : Bool := decide (addN (great0 d) d.lines > 12000) || (decide ((0 : Int) > 60) || decide ((d.lines.length : Int) > 2000))
theorem great17_eq (d : DM) : great17B d = greatD d := by unfold great17B greatD; simp
theorem great17_nil (x : PM) (d : DM) (s : DS) (w : World) (h : Data s d w) : Calls Tryz.prog 9 #[.agg (lptyV x d s).toArray, .slice none 0 0] w fun e w' => e = .returned (.bool (great17B d)) ∧ Only [] w w' := by
  have hmap := h.map
  have hll := h.llen
  have hrd := h.lines.rd
  have hlen : d.lines.length ≤ maxLen := by rw [← hll]; exact Nat.le_trans h.lines.le h.lines.cap
  have J : ∀ (e i : Nat), d.lines.length - i = e → i ≤ d.lines.length → ∀ (b0 : Nat) (u : Nat → Value), Hs Tryz.prog 9 (fun e w' => e = .returned (.bool (great17B d)) ∧ Only [] w w') (Tryz.f9).ntmps w [] [b0] ⟨.no, loopAt Tryz.f9 0, pins [(1, .c (.v (.slice none 0 0))), (2, .c (.p 0 0)), (5, .c (.v (.int .i64 (addN (great0 d) (d.lines.take i))))), (26, .c (.v (.slice s.sa d.lines.length s.sc))), (27, .c (.v (.int .i64 d.lines.length))), (28, .c (.v (.int .i64 i)))] (.vals u), [.b true 34 (lptySC x d s)]⟩ := by
    intro e
    induction e with
    | zero =>
      intro i hd hi b0 u
      obtain rfl : i = d.lines.length := by omega
      rw [List.take_length]
      refine Hs.run0 300 (fun _ => by kernel_rfl) ?_
      refine Hs.condP ((d.lines.length : Int) < (d.lines.length : Int)) (by kernel_rfl) (fun h => by omega) (fun _ => ?_)
      refine Hs.run0 300 (fun _ => by kernel_rfl) ?_
      refine Hs.loop (by kernel_rfl) ?_
      refine Hs.run0 300 (fun _ => by kernel_rfl) ?_
      refine Hs.condF (by kernel_rfl) ?_
      refine Hs.run0 300 (fun _ => by kernel_rfl) ?_
      unfold great17B
      refine Hs.bool 53 (decide (addN (great0 d) d.lines > 12000)) (by kernel_rfl) (fun h1 => ?_) (fun h1 => ?_)
      · refine Hs.rung0 [2, 7] 300 (fun _ => by kernel_rfl) ?_
        exact Hs.ret (v := .bool true) Tryz.func9 (by kernel_rfl) fun w' H => ⟨by rw [h1]; rfl, H.only⟩
      · refine Hs.rung0 [2, 7] 300 (fun _ => by kernel_rfl) ?_
        exact Hs.ret (v := .bool (decide ((d.lines.length : Int) > 2000))) Tryz.func9 (by kernel_rfl) fun w' H => ⟨by rw [h1]; simp, H.only⟩
    | succ e ih =>
      intro i hd hi b0 u
      have hil : i < d.lines.length := by omega
      obtain ⟨y, hyi⟩ : ∃ y, s.xs[i]? = some y := ⟨_, List.getElem?_eq_getElem (by omega)⟩
      have hmi : d.lines[i]? = some y.m := by rw [← hmap, List.getElem?_map, hyi]; rfl
      obtain ⟨ab, aoff, hA, _, _⟩ := hrd (by omega)
      have hih := fun u => ih (i + 1) (by omega) (by omega) b0 u
      rw [List.take_add_one, hmi] at hih
      rw [show d.lines.take i ++ (some y.m).toList = d.lines.take i ++ [y.m] from rfl, addN_snoc] at hih
      rw [hA] at hih ⊢
      rw [hA] at hrd
      refine Hs.run0 300 (fun _ => by kernel_rfl) ?_
      refine Hs.condP ((i : Int) < (d.lines.length : Int)) (by kernel_rfl) (fun _ => ?_) (fun h => by omega)
      refine Hs.run0 300 (fun _ => by kernel_rfl) ?_
      refine Hs.idx (b := ab) (off := aoff) (len := d.lines.length) (c := s.sc) (i := i) elemLn16 hil (by kernel_rfl) ?_
      refine Hs.ldx (cf := cLn) (size := 2) (E := 103) (b := ab) (off := aoff) (i := i) (l := s.xs) (x := y) cLn_len (.g y.sc) (by kernel_rfl) (fun w' H => hrd.only H.only) hyi (by kernel_rfl) (by kernel_rfl) rfl (by kernel_rfl) ?_
      refine Hs.run1 300 (fun _ => by kernel_rfl) fun b1 => ?_
      refine Hs.slot 28 (.c (.v (.int .i64 (i + 1 : Nat)))) rfl ((by kernel_rfl : _ = Value.int .i64 (IntKind.i64.wrap ((i : Int) + 1))).trans (wrap_nextJ hlen)) ?_
      refine Hs.loop (by kernel_rfl) ?_
      exact Hs.goto (loopAt Tryz.f9 0) [0] [.b true 34 (lptySC x d s)] [(1, .c (.v (.slice none 0 0))), (2, .c (.p 0 0)), (5, .c (.v (.int .i64 (IntKind.i64.wrap (addN (great0 d) (d.lines.take i) + (y.m.1.length : Int)))))), (26, .c (.v (.slice (some ⟨ab, aoff, none⟩) d.lines.length s.sc))), (27, .c (.v (.int .i64 d.lines.length))), (28, .c (.v (.int .i64 (i + 1 : Nat))))] (by kernel_rfl) (by decide) (by kernel_rfl) (by kernel_rfl) (fun _ => (by kernel_rfl)) (fun u => hih u)
  refine Hs.enter Tryz.func9 [] [] [] [.g (lptySC x d s), .c (.v (.slice none 0 0))] (Mem.start0 w) (by kernel_rfl) (by kernel_rfl) ?_
  refine Hs.run1 300 (fun _ => by kernel_rfl) fun b0 => ?_
  refine Hs.loop (by kernel_rfl) ?_
  exact Hs.goto (loopAt Tryz.f9 0) [0] [.b true 34 (lptySC x d s)] [(1, .c (.v (.slice none 0 0))), (2, .c (.p 0 0)), (5, .c (.v (.int .i64 (great0 d)))), (26, .c (.v (.slice s.sa d.lines.length s.sc))), (27, .c (.v (.int .i64 d.lines.length))), (28, .c (.v (.int .i64 (0 : Nat))))] (by kernel_rfl) (by decide) (by kernel_rfl) (by kernel_rfl) (fun _ => (by kernel_rfl)) (fun u => J d.lines.length 0 (by omega) (by omega) b0 u)
end Go.Proofs.YtnfcdbjckdhieaaGreat
