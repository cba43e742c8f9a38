/- Layer 17: one event for each other size: the walk; for all terminals and sizes; no condition but the lengths of its slices. -/
import Derived.Test.YtnfcdbjckdhieaaGreatPtE
namespace Go.Proofs.YtnfcdbjckdhieaaGreat
set_option linter.all false
set_option maxRecDepth 100000
open Go.RowKit

theorem elemSz : ElemT Tryz.prog 35 32 4 (Tryz.prog.bytesOf 32) := elemT_of (z := .agg (SZ.cells ⟨0, 0, 0, 0⟩).toArray) (by kernel_rfl) (by kernel_rfl) (by decide) (by decide)
theorem size_same {x : PM} {q0 q : SZ} (h : sizeB (x.size q0) q = true) : q0 = q := by
  obtain ⟨a, b, c, e⟩ := q0
  obtain ⟨a', b', c', e'⟩ := q
  unfold sizeB PM.size at h
  simp at h
  obtain ⟨rfl, rfl, rfl, rfl⟩ := h
  rfl
set_option maxHeartbeats 4000000 in
theorem sizes_walk (x : PM) (d : DM) (s : DS) (A : Option Addr) (cap : Nat) (xs : List SZ) (w : World) (h : Data s d w) (hL : LenOk d) (hrd : RdX SZ.cells w A xs) (hle : xs.length ≤ cap) (hcap : cap ≤ maxLen) : Calls Tryz.prog 3 #[.agg (lptyV x d s).toArray, .slice A xs.length cap] w (fun e w' => e = .returned (.bool true) ∧ Only [] w w') := by
  have hm : xs.length ≤ maxLen := Nat.le_trans hle hcap
  have J : ∀ (e i : Nat), xs.length - i = e → i ≤ xs.length → ∀ (b0 p g : Nat) (q0 : SZ) (s2 : DS) (w1 : World) (L1 : List Nat), Nx w w1 L1 (fun w => Data s2 d w ∧ True) → ∀ (u : Nat → Value), Hs Tryz.prog 3 (fun e w' => e = .returned (.bool true) ∧ Only [] w w') (Tryz.f3).ntmps w1 L1 [b0, g, p] ⟨.no, loopAt Tryz.f3 0, pins [(2, .c (.p 0 0)), (5, .c (.p 2 0)), (22, .c (.v (.slice A xs.length cap))), (23, .c (.v (.int .i64 xs.length))), (24, .c (.v (.int .i64 i)))] (.vals u), [.b true 34 (lptySC x d s), .b true 96 (discSC d s2), .b true 42 (ptySC (x.size q0) 1)]⟩ := by
    intro e
    induction e with
    | zero =>
      intro i he hi b0 p g q0 s2 w1 L1 N u
      obtain rfl : i = xs.length := by omega
      refine Hs.run0 300 (fun _ => by kernel_rfl) ?_
      refine Hs.condP ((xs.length : Int) < (xs.length : Int)) (by kernel_rfl) (fun h => by omega) (fun _ => ?_)
      refine Hs.run0 300 (fun _ => by kernel_rfl) ?_
      refine Hs.any [0, 2] (by kernel_rfl) ?_
      refine Hs.run0 300 (fun _ => by kernel_rfl) ?_
      refine Hs.bool 76 (x.grp == x.grp) (by kernel_rfl) (fun _ => ?_) (fun h => by simp at h)
      refine Hs.rung0 [7] 300 (fun _ => by kernel_rfl) ?_
      exact Hs.ret (v := .bool (x.hung == x.hung)) Tryz.func3 (by kernel_rfl) fun w' H => ⟨by simp, N.only H⟩
    | succ e ihe =>
      intro i he hi b0 p g q0 s2 w1 L1 N u
      have hil : i < xs.length := by omega
      obtain ⟨q, hq⟩ : ∃ q, xs[i]? = some q := ⟨_, List.getElem?_eq_getElem hil⟩
      obtain ⟨ab, aoff, hA, _, _⟩ := hrd (by omega)
      have hih := fun (b0 p g : Nat) q s3 w3 L3 N u => ihe (i + 1) (by omega) (by omega) b0 p g q s3 w3 L3 N u
      rw [hA] at hih hrd ⊢
      by_cases hs : sizeB (x.size q0) q = true
      · obtain rfl := size_same hs
        have key : sizeP (x.size q0) q0 = (x.size q0, []) := by unfold sizeP; rw [if_pos hs]
        obtain ⟨q, rfl⟩ : ∃ q, q = q0 := ⟨_, rfl⟩
        refine Hs.run0 300 (fun _ => by kernel_rfl) ?_
        refine Hs.condP ((i : Int) < (xs.length : Int)) (by kernel_rfl) (fun _ => ?_) (fun h => by omega)
        refine Hs.run0 300 (fun _ => by kernel_rfl) ?_
        refine Hs.idx (b := ab) (off := aoff) (len := xs.length) (c := cap) (i := i) elemSz hil (by kernel_rfl) ?_
        refine Hs.ldx (cf := SZ.cells) (size := 4) (E := 32) (b := ab) (off := aoff) (i := i) (l := xs) (x := q) (fun _ => rfl) (.g q.sc) (by kernel_rfl) (fun w' H => hrd.only (N.only H)) hq (by kernel_rfl) (by kernel_rfl) rfl (by kernel_rfl) ?_
        refine Hs.run2 300 (fun _ => by kernel_rfl) fun b3 b4 => ?_
        refine Hs.callNQ (X := SX) (x := x.size q) (x' := x.size q) (s := s2) (d := d) (d' := d) (v := fun z => .slice z.1 0 z.2) (Q := fun z w => RdE w z []) 2 1 N rfl rfl (by kernel_rfl) (by kernel_rfl) (by decide) (fun w' H hP => by
          have := psize_any q (x.size q) d s2 p g w' hP
          rw [key] at this
          exact this) (by kernel_rfl) (by kernel_rfl) ⟨(by kernel_rfl), fun _ => (by kernel_rfl)⟩ fun s3 z w3 L3 N3 => ?_
        refine Hs.rung0 [] 11 (fun _ => by kernel_rfl) ?_
        refine Hs.same (op := .neq) (T := 32) q.cells.toArray false (by kernel_rfl) (.inr ⟨rfl, rfl⟩) (by kernel_rfl) ?_
        refine Hs.rung0 [3] 300 (fun _ => by kernel_rfl) ?_
        refine Hs.condF (by kernel_rfl) ?_
        refine Hs.run0 300 (fun _ => by kernel_rfl) ?_
        refine Hs.any [0, 2, 3] (by kernel_rfl) ?_
        refine Hs.rung0 [4, 7, 17] 23 (fun _ => by kernel_rfl) ?_
        refine Hs.sel1 23 (by kernel_rfl) ?_
        refine Hs.rung0 [17] 1 (fun _ => by kernel_rfl) ?_
        refine Hs.same (op := .neq) (T := 32) q.cells.toArray false (by kernel_rfl) (.inr ⟨rfl, rfl⟩) (by kernel_rfl) ?_
        refine Hs.rung0 [17] 300 (fun _ => by kernel_rfl) ?_
        refine Hs.condF (by kernel_rfl) ?_
        refine Hs.run0 300 (fun _ => by kernel_rfl) ?_
        refine Hs.slot 24 (.c (.v (.int .i64 (i + 1 : Nat)))) rfl ((by kernel_rfl : _ = Value.int .i64 (IntKind.i64.wrap ((i : Int) + 1))).trans (wrap_nextJ hm)) ?_
        refine Hs.loop (by kernel_rfl) ?_
        exact Hs.goto (loopAt Tryz.f3 0) [0, 1, 2] [.b true 34 (lptySC x d s), .b true 96 (discSC d s3), .b true 42 (ptySC (x.size q) 1)] [(2, .c (.p 0 0)), (5, .c (.p 2 0)), (22, .c (.v (.slice (some ⟨ab, aoff, none⟩) xs.length cap))), (23, .c (.v (.int .i64 xs.length))), (24, .c (.v (.int .i64 (i + 1 : Nat))))] (by kernel_rfl) (by decide) (by kernel_rfl) (by kernel_rfl) (fun _ => (by kernel_rfl)) (fun u => hih b0 p g q s3 w3 L3 (N3.imp fun w h => ⟨h.1.1, trivial⟩) u)
      have hs' : sizeB (x.size q0) q = false := by simpa using hs
      by_cases hg : x.grp = 0
      · have key : sizeP (x.size q0) q = (x.size q, []) := by
          unfold sizeP
          rw [if_neg hs, show evL (x.size q0).grp [28] = [] by unfold evL; rw [if_pos (by show (x.grp == 0) = true; simp [hg])]]
          rfl
        refine Hs.run0 300 (fun _ => by kernel_rfl) ?_
        refine Hs.condP ((i : Int) < (xs.length : Int)) (by kernel_rfl) (fun _ => ?_) (fun h => by omega)
        refine Hs.run0 300 (fun _ => by kernel_rfl) ?_
        refine Hs.idx (b := ab) (off := aoff) (len := xs.length) (c := cap) (i := i) elemSz hil (by kernel_rfl) ?_
        refine Hs.ldx (cf := SZ.cells) (size := 4) (E := 32) (b := ab) (off := aoff) (i := i) (l := xs) (x := q) (fun _ => rfl) (.g q.sc) (by kernel_rfl) (fun w' H => hrd.only (N.only H)) hq (by kernel_rfl) (by kernel_rfl) rfl (by kernel_rfl) ?_
        refine Hs.run2 300 (fun _ => by kernel_rfl) fun b3 b4 => ?_
        refine Hs.callNQ (X := SX) (x := x.size q0) (x' := x.size q) (s := s2) (d := d) (d' := d) (v := fun z => .slice z.1 0 z.2) (Q := fun z w => RdE w z []) 2 1 N rfl rfl (by kernel_rfl) (by kernel_rfl) (by decide) (fun w' H hP => by
          have := psize_any q (x.size q0) d s2 p g w' hP
          rw [key] at this
          exact this) (by kernel_rfl) (by kernel_rfl) ⟨(by kernel_rfl), fun _ => (by kernel_rfl)⟩ fun s3 z w3 L3 N3 => ?_
        refine Hs.rung0 [] 11 (fun _ => by kernel_rfl) ?_
        refine Hs.cmp (op := .neq) (T := 32) q.cells.toArray q0.cells.toArray false true (by kernel_rfl) (.inr ⟨rfl, rfl⟩) (by kernel_rfl) ((by kernel_rfl : _ = some (sizeB (x.size q0) q)).trans (by rw [hs'])) ?_
        refine Hs.rung0 [3] 300 (fun _ => by kernel_rfl) ?_
        refine Hs.cond (x.grp != 0) (by kernel_rfl) (fun hx => by simp [hg] at hx) (fun _ => ?_)
        refine Hs.run0 300 (fun _ => by kernel_rfl) ?_
        refine Hs.any [0, 2, 3] (by kernel_rfl) ?_
        refine Hs.rung0 [4, 7, 17] 23 (fun _ => by kernel_rfl) ?_
        refine Hs.sel1 23 (by kernel_rfl) ?_
        refine Hs.rung0 [17] 1 (fun _ => by kernel_rfl) ?_
        refine Hs.same (op := .neq) (T := 32) q.cells.toArray false (by kernel_rfl) (.inr ⟨rfl, rfl⟩) (by kernel_rfl) ?_
        refine Hs.rung0 [17] 300 (fun _ => by kernel_rfl) ?_
        refine Hs.condF (by kernel_rfl) ?_
        refine Hs.run0 300 (fun _ => by kernel_rfl) ?_
        refine Hs.slot 24 (.c (.v (.int .i64 (i + 1 : Nat)))) rfl ((by kernel_rfl : _ = Value.int .i64 (IntKind.i64.wrap ((i : Int) + 1))).trans (wrap_nextJ hm)) ?_
        refine Hs.loop (by kernel_rfl) ?_
        exact Hs.goto (loopAt Tryz.f3 0) [0, 1, 2] [.b true 34 (lptySC x d s), .b true 96 (discSC d s3), .b true 42 (ptySC (x.size q) 1)] [(2, .c (.p 0 0)), (5, .c (.p 2 0)), (22, .c (.v (.slice (some ⟨ab, aoff, none⟩) xs.length cap))), (23, .c (.v (.int .i64 xs.length))), (24, .c (.v (.int .i64 (i + 1 : Nat))))] (by kernel_rfl) (by decide) (by kernel_rfl) (by kernel_rfl) (fun _ => (by kernel_rfl)) (fun u => hih b0 p g q s3 w3 L3 (N3.imp fun w h => ⟨h.1.1, trivial⟩) u)
      · have key : sizeP (x.size q0) q = (x.size q, [(x.grp, 28)]) := by
          unfold sizeP
          rw [if_neg hs, show evL (x.size q0).grp [28] = [(x.grp, 28)] by unfold evL; rw [if_neg (by show ¬ (x.grp == 0) = true; simp [hg])]; rfl]
          rfl
        refine Hs.run0 300 (fun _ => by kernel_rfl) ?_
        refine Hs.condP ((i : Int) < (xs.length : Int)) (by kernel_rfl) (fun _ => ?_) (fun h => by omega)
        refine Hs.run0 300 (fun _ => by kernel_rfl) ?_
        refine Hs.idx (b := ab) (off := aoff) (len := xs.length) (c := cap) (i := i) elemSz hil (by kernel_rfl) ?_
        refine Hs.ldx (cf := SZ.cells) (size := 4) (E := 32) (b := ab) (off := aoff) (i := i) (l := xs) (x := q) (fun _ => rfl) (.g q.sc) (by kernel_rfl) (fun w' H => hrd.only (N.only H)) hq (by kernel_rfl) (by kernel_rfl) rfl (by kernel_rfl) ?_
        refine Hs.run2 300 (fun _ => by kernel_rfl) fun b3 b4 => ?_
        refine Hs.callNQ (X := SX) (x := x.size q0) (x' := x.size q) (s := s2) (d := d) (d' := d) (v := fun z => .slice z.1 1 z.2) (Q := fun z w => RdE w z [(x.grp, 28)]) 2 1 N rfl rfl (by kernel_rfl) (by kernel_rfl) (by decide) (fun w' H hP => by
          have := psize_any q (x.size q0) d s2 p g w' hP
          rw [key] at this
          exact this) (by kernel_rfl) (by kernel_rfl) ⟨(by kernel_rfl), fun _ => (by kernel_rfl)⟩ fun s3 z w3 L3 N3 => ?_
        refine Hs.rung0 [] 11 (fun _ => by kernel_rfl) ?_
        refine Hs.cmp (op := .neq) (T := 32) q.cells.toArray q0.cells.toArray false true (by kernel_rfl) (.inr ⟨rfl, rfl⟩) (by kernel_rfl) ((by kernel_rfl : _ = some (sizeB (x.size q0) q)).trans (by rw [hs'])) ?_
        refine Hs.rung0 [3] 300 (fun _ => by kernel_rfl) ?_
        obtain ⟨A5, c5⟩ := z
        obtain ⟨eb, eo, hA5, _, _⟩ := N3.keeps.at.1.2.1 (by simp)
        replace hA5 : A5 = some ⟨eb, eo, none⟩ := hA5
        subst hA5
        refine Hs.cond (x.grp != 0) (by kernel_rfl) (fun _ => ?_) (fun hx => by simp at hx; exact absurd hx hg)
        refine Hs.run0 300 (fun _ => by kernel_rfl) ?_
        refine Hs.any [0, 2, 3] (by kernel_rfl) ?_
        refine Hs.rung0 [4, 7, 17] 12 (fun _ => by kernel_rfl) ?_
        refine Hs.sel1 9 (by kernel_rfl) ?_
        refine Hs.rung0 [7] 1 (fun _ => by kernel_rfl) ?_
        refine Hs.idx (b := eb) (off := eo) (len := 1) (c := c5) (i := 0) elemEv (by decide) (by kernel_rfl) ?_
        refine Hs.sel1 10 (by kernel_rfl) ?_
        refine Hs.rung0 [7] 1 (fun _ => by kernel_rfl) ?_
        refine Hs.ldx (cf := cEv) (size := 2) (E := 46) (b := eb) (off := eo) (i := 0) (l := [(x.grp, (28 : Int))]) (x := (x.grp, (28 : Int))) cEv_len (.g [.v (.int .i64 x.grp), .v (.int .i64 28)]) (by kernel_rfl) (fun w' H => (N3.now H).1.2.1) rfl (by kernel_rfl) (by kernel_rfl) rfl (by kernel_rfl) ?_
        refine Hs.sel1 14 (by kernel_rfl) ?_
        refine Hs.rung0 [7] 1 (fun _ => by kernel_rfl) ?_
        refine Hs.same (op := .neq) (T := 46) #[.int .i64 x.grp, .int .i64 28] false (by kernel_rfl) (.inr ⟨rfl, rfl⟩) (by kernel_rfl) ?_
        refine Hs.rung0 [4, 7, 17] 8 (fun _ => by kernel_rfl) ?_
        refine Hs.sel1 23 (by kernel_rfl) ?_
        refine Hs.rung0 [17] 1 (fun _ => by kernel_rfl) ?_
        refine Hs.same (op := .neq) (T := 32) q.cells.toArray false (by kernel_rfl) (.inr ⟨rfl, rfl⟩) (by kernel_rfl) ?_
        refine Hs.rung0 [17] 300 (fun _ => by kernel_rfl) ?_
        refine Hs.condF (by kernel_rfl) ?_
        refine Hs.run0 300 (fun _ => by kernel_rfl) ?_
        refine Hs.slot 24 (.c (.v (.int .i64 (i + 1 : Nat)))) rfl ((by kernel_rfl : _ = Value.int .i64 (IntKind.i64.wrap ((i : Int) + 1))).trans (wrap_nextJ hm)) ?_
        refine Hs.loop (by kernel_rfl) ?_
        exact Hs.goto (loopAt Tryz.f3 0) [0, 1, 2] [.b true 34 (lptySC x d s), .b true 96 (discSC d s3), .b true 42 (ptySC (x.size q) 1)] [(2, .c (.p 0 0)), (5, .c (.p 2 0)), (22, .c (.v (.slice (some ⟨ab, aoff, none⟩) xs.length cap))), (23, .c (.v (.int .i64 xs.length))), (24, .c (.v (.int .i64 (i + 1 : Nat))))] (by kernel_rfl) (by decide) (by kernel_rfl) (by kernel_rfl) (fun _ => (by kernel_rfl)) (fun u => hih b0 p g q s3 w3 L3 (N3.imp fun w h => ⟨h.1.1, trivial⟩) u)
  refine Hs.enter Tryz.func3 [] [] [] [.g (lptySC x d s), .c (.v (.slice A xs.length cap))] (Mem.start0 w) (by kernel_rfl) (by kernel_rfl) ?_
  refine Hs.run1 300 (fun _ => by kernel_rfl) fun b0 => ?_
  refine Hs.callV (fun w' H => alive17_any w') (by kernel_rfl) ?_
  refine Hs.run0 300 (fun _ => by kernel_rfl) ?_
  refine Hs.condF (by kernel_rfl) ?_
  refine Hs.run0 300 (fun _ => by kernel_rfl) ?_
  refine Hs.callV (fun w' H => great17_nil x d s w' (h.only17 H.only)) (by kernel_rfl) ?_
  rw [great17_eq]
  refine Hs.run0 300 (fun _ => by kernel_rfl) ?_
  refine Hs.bool 15 (greatD d) (by kernel_rfl) (fun hg => ?_) (fun hg => ?_)
  · refine Hs.rung0 [2] 300 (fun _ => by kernel_rfl) ?_
    refine Hs.condT (by kernel_rfl) ?_
    refine Hs.run0 300 (fun _ => by kernel_rfl) ?_
    exact Hs.ret (v := .bool true) Tryz.func3 (by kernel_rfl) fun w' H => ⟨rfl, H.only⟩
  refine Hs.rung0 [2] 300 (fun _ => by kernel_rfl) ?_
  refine Hs.condP ((xs.length : Int) > 1000) (by kernel_rfl) (fun _ => ?_) (fun _ => ?_)
  · refine Hs.run0 300 (fun _ => by kernel_rfl) ?_
    exact Hs.ret (v := .bool true) Tryz.func3 (by kernel_rfl) fun w' H => ⟨rfl, H.only⟩
  have hf := (few_of hL hg).1
  refine Hs.run0 300 (fun _ => by kernel_rfl) ?_
  refine Hs.callB2 1 (fun _ k => ptySC x k) (fun s' => discSC d s') (Nx.start w) (fun w' H => to17_any x d s w' (h.only17 H.only) hf) (fun β _ k g hk => by subst hk; rfl) (fun β s' => rfl) (fun _ j k hk => by simp [ptySC, SC.wf, blt_spec, hk]) (fun s' j => disc_wf _ _ _) (by kernel_rfl) (by kernel_rfl) (by kernel_rfl) fun p g s1 w1 L1 N1 => ?_
  refine Hs.run0 300 (fun _ => by kernel_rfl) ?_
  refine Hs.loop (by kernel_rfl) ?_
  exact Hs.goto (loopAt Tryz.f3 0) [0, 1, 2] [.b true 34 (lptySC x d s), .b true 96 (discSC d s1), .b true 42 (ptySC (x.size ⟨x.co, x.ro, x.wi, x.he⟩) 1)] [(2, .c (.p 0 0)), (5, .c (.p 2 0)), (22, .c (.v (.slice A xs.length cap))), (23, .c (.v (.int .i64 xs.length))), (24, .c (.v (.int .i64 (0 : Nat))))] (by kernel_rfl) (by decide) (by kernel_rfl) (by kernel_rfl) (fun _ => (by kernel_rfl)) (fun u => J xs.length 0 (by omega) (by omega) b0 p g ⟨x.co, x.ro, x.wi, x.he⟩ s1 w1 L1 (N1.imp fun w h => ⟨h.1, trivial⟩) u)
end Go.Proofs.YtnfcdbjckdhieaaGreat
