/- Layer 17: a setting set anew; for all terminals and settings; no condition but their size. -/
import Derived.Test.YtnfcdbjckdhieaaGreatPtC
namespace Go.Proofs.YtnfcdbjckdhieaaGreat
set_option linter.all false
set_option maxRecDepth 100000
open Go.RowKit

def attrP (x : PM) (d : DM) (n : Int) (t : TM) : DM × Int := if n < 1 ∨ n > 3 then (d, 2) else if x.hung then (d, 11) else if !rightB t then (d, 4) else if n ≠ 1 ∧ (d.out.length : Int) > 0 then (d, 10) else (setD (if n == 3 then (flushD d 1).1 else d) t, setE t)
set_option maxHeartbeats 2000000 in
theorem psetattr_any (n : Int) (t : TM) (x : PM) (d : DM) (s : DS) (p g : Nat) (w : World) (h : PAt w p g x d s) (hf : Few d) : Calls Tryz.prog 58 #[.pointer (some ⟨p, 0, none⟩), .int .i64 n, t.val] w (PN w p g s d x (attrP x d n t).1 (.int .i64 (attrP x d n t).2)) := by
  have C := h.gx
  unfold attrP
  refine Hs.enter Tryz.func58 [p, g] [p, g] [.b true 42 (ptySC x 1), .b true 96 (discSC d s)] [.c (.p 0 0), .c (.v (.int .i64 n)), .g t.sc] h.mem (by kernel_rfl) (by kernel_rfl) ?_
  refine Hs.run1 300 (fun _ => by kernel_rfl) fun b2 => ?_
  refine Hs.condF (by kernel_rfl) ?_
  refine Hs.run0 300 (fun _ => by kernel_rfl) ?_
  refine Hs.bool 14 (decide (n < 1)) (by kernel_rfl) (fun h1 => ?_) (fun h1 => ?_)
  · replace h1 : n < 1 := by simpa using h1
    rw [if_pos (.inl h1)]
    refine Hs.rung0 [2] 300 (fun _ => by kernel_rfl) ?_
    refine Hs.condT (by kernel_rfl) ?_
    refine Hs.run0 300 (fun _ => by kernel_rfl) ?_
    exact Hs.ret (v := .int .i64 2) Tryz.func58 (by kernel_rfl) fun w' H => PQ.of (s := s) (d := d) (x := x) () C H rfl rfl (by kernel_rfl) (by kernel_rfl) fun w h => ⟨h, trivial⟩
  replace h1 : ¬ n < 1 := by simpa using h1
  refine Hs.rung0 [2] 300 (fun _ => by kernel_rfl) ?_
  refine Hs.condP (n > 3) (by kernel_rfl) (fun h2 => ?_) (fun h2 => ?_)
  · rw [if_pos (.inr h2)]
    refine Hs.run0 300 (fun _ => by kernel_rfl) ?_
    exact Hs.ret (v := .int .i64 2) Tryz.func58 (by kernel_rfl) fun w' H => PQ.of (s := s) (d := d) (x := x) () C H rfl rfl (by kernel_rfl) (by kernel_rfl) fun w h => ⟨h, trivial⟩
  rw [if_neg fun h => h.elim h1 h2]
  refine Hs.run0 300 (fun _ => by kernel_rfl) ?_
  refine Hs.cond x.hung (by kernel_rfl) (fun h3 => ?_) (fun h3 => ?_)
  · rw [if_pos h3]
    refine Hs.run0 300 (fun _ => by kernel_rfl) ?_
    exact Hs.ret (v := .int .i64 11) Tryz.func58 (by kernel_rfl) fun w' H => PQ.of (s := s) (d := d) (x := x) () C H rfl rfl (by kernel_rfl) (by kernel_rfl) fun w h => ⟨h, trivial⟩
  rw [if_neg (by rw [h3]; decide)]
  refine Hs.run0 300 (fun _ => by kernel_rfl) ?_
  refine Hs.callV (fun w' H => Calls.mono (right_any t w') fun e w'' h => ⟨h.1, only_of_below h.2⟩) (by kernel_rfl) ?_
  refine Hs.run0 300 (fun _ => by kernel_rfl) ?_
  refine Hs.cond (!rightB t) (by kernel_rfl) (fun h4 => ?_) (fun h4 => ?_)
  · rw [if_pos h4]
    refine Hs.run0 300 (fun _ => by kernel_rfl) ?_
    exact Hs.ret (v := .int .i64 4) Tryz.func58 (by kernel_rfl) fun w' H => PQ.of (s := s) (d := d) (x := x) () C H rfl rfl (by kernel_rfl) (by kernel_rfl) fun w h => ⟨h, trivial⟩
  rw [if_neg (by rw [h4]; decide)]
  refine Hs.run0 300 (fun _ => by kernel_rfl) ?_
  refine Hs.bool 30 (n != 1) (by kernel_rfl) (fun h6 => ?_) (fun h6 => ?_)
  · replace h6 : n ≠ 1 := by simpa using h6
    refine Hs.rung0 [2] 300 (fun _ => by kernel_rfl) ?_
    refine Hs.callV (fun w' H => pdisc_any x p g w' (mem_pty H rfl rfl (by kernel_rfl))) (by kernel_rfl) ?_
    refine Hs.slot 32 (.c (.p 1 0)) (by kernel_rfl) (by kernel_rfl) ?_
    refine Hs.rung0 [2] 300 (fun _ => by kernel_rfl) ?_
    refine Hs.condP ((d.out.length : Int) > 0) (by kernel_rfl) (fun h7 => ?_) (fun h7 => ?_)
    · rw [if_pos ⟨h6, h7⟩]
      refine Hs.run0 300 (fun _ => by kernel_rfl) ?_
      exact Hs.ret (v := .int .i64 10) Tryz.func58 (by kernel_rfl) fun w' H => PQ.of (s := s) (d := d) (x := x) () C H rfl rfl (by kernel_rfl) (by kernel_rfl) fun w h => ⟨h, trivial⟩
    rw [if_neg fun h => h7 h.2]
    refine Hs.run0 300 (fun _ => by kernel_rfl) ?_
    refine Hs.callV (fun w' H => pdisc_any x p g w' (mem_pty H rfl rfl (by kernel_rfl))) (by kernel_rfl) ?_
    refine Hs.run0 300 (fun _ => by kernel_rfl) ?_
    refine Hs.cond (n == 3) (by kernel_rfl) (fun h5 => ?_) (fun h5 => ?_)
    · rw [if_pos h5]
      refine Hs.run0 300 (fun _ => by kernel_rfl) ?_
      refine Hs.callGP (x := x) (F := fun _ => True) (s := s) (d := d) (d' := (flushD d 1).1) (v := .int .i64 (flushD d 1).2) (C.imp fun w h => ⟨h, trivial⟩) rfl rfl (by kernel_rfl) (by kernel_rfl) (fun w' H hD => flush_any d s g 1 w' hD) (by kernel_rfl) (by kernel_rfl) (fun _ => (by kernel_rfl)) fun s1 w1 L1 C1 => ?_
      refine Hs.run0 300 (fun _ => by kernel_rfl) ?_
      refine Hs.callGP (x := x) (F := fun _ => True) (s := s1) (d := (flushD d 1).1) (d' := setD (flushD d 1).1 t) (v := .int .i64 (setE t)) (C1.imp fun w h => ⟨h.1, trivial⟩) rfl rfl (by kernel_rfl) (by kernel_rfl) (fun w' H hD => dset_any (flushD d 1).1 s1 g t w' hD (flushD_few hf)) (by kernel_rfl) (by kernel_rfl) (fun _ => (by kernel_rfl)) fun s2 w2 L2 C2 => ?_
      refine Hs.run0 300 (fun _ => by kernel_rfl) ?_
      exact Hs.ret (v := .int .i64 (setE t)) Tryz.func58 (by kernel_rfl) fun w' H => PQ.of (s := s2) (d := (setD (flushD d 1).1 t)) (x := x) () C2 H rfl rfl (by kernel_rfl) (by kernel_rfl) fun w h => ⟨h.1, trivial⟩
    · rw [if_neg (by rw [h5]; decide)]
      refine Hs.run0 300 (fun _ => by kernel_rfl) ?_
      refine Hs.callGP (x := x) (F := fun _ => True) (s := s) (d := d) (d' := setD d t) (v := .int .i64 (setE t)) (C.imp fun w h => ⟨h, trivial⟩) rfl rfl (by kernel_rfl) (by kernel_rfl) (fun w' H hD => dset_any d s g t w' hD hf) (by kernel_rfl) (by kernel_rfl) (fun _ => (by kernel_rfl)) fun s2 w2 L2 C2 => ?_
      refine Hs.run0 300 (fun _ => by kernel_rfl) ?_
      exact Hs.ret (v := .int .i64 (setE t)) Tryz.func58 (by kernel_rfl) fun w' H => PQ.of (s := s2) (d := (setD d t)) (x := x) () C2 H rfl rfl (by kernel_rfl) (by kernel_rfl) fun w h => ⟨h.1, trivial⟩
  · replace h6 : n = 1 := by simpa using h6
    rw [if_neg fun h => h.1 h6]
    refine Hs.rung0 [2] 300 (fun _ => by kernel_rfl) ?_
    refine Hs.condF (by kernel_rfl) ?_
    refine Hs.run0 300 (fun _ => by kernel_rfl) ?_
    refine Hs.callV (fun w' H => pdisc_any x p g w' (mem_pty H rfl rfl (by kernel_rfl))) (by kernel_rfl) ?_
    refine Hs.run0 300 (fun _ => by kernel_rfl) ?_
    refine Hs.cond (n == 3) (by kernel_rfl) (fun h5 => ?_) (fun h5 => ?_)
    · rw [if_pos h5]
      refine Hs.run0 300 (fun _ => by kernel_rfl) ?_
      refine Hs.callGP (x := x) (F := fun _ => True) (s := s) (d := d) (d' := (flushD d 1).1) (v := .int .i64 (flushD d 1).2) (C.imp fun w h => ⟨h, trivial⟩) rfl rfl (by kernel_rfl) (by kernel_rfl) (fun w' H hD => flush_any d s g 1 w' hD) (by kernel_rfl) (by kernel_rfl) (fun _ => (by kernel_rfl)) fun s1 w1 L1 C1 => ?_
      refine Hs.run0 300 (fun _ => by kernel_rfl) ?_
      refine Hs.callGP (x := x) (F := fun _ => True) (s := s1) (d := (flushD d 1).1) (d' := setD (flushD d 1).1 t) (v := .int .i64 (setE t)) (C1.imp fun w h => ⟨h.1, trivial⟩) rfl rfl (by kernel_rfl) (by kernel_rfl) (fun w' H hD => dset_any (flushD d 1).1 s1 g t w' hD (flushD_few hf)) (by kernel_rfl) (by kernel_rfl) (fun _ => (by kernel_rfl)) fun s2 w2 L2 C2 => ?_
      refine Hs.run0 300 (fun _ => by kernel_rfl) ?_
      exact Hs.ret (v := .int .i64 (setE t)) Tryz.func58 (by kernel_rfl) fun w' H => PQ.of (s := s2) (d := (setD (flushD d 1).1 t)) (x := x) () C2 H rfl rfl (by kernel_rfl) (by kernel_rfl) fun w h => ⟨h.1, trivial⟩
    · rw [if_neg (by rw [h5]; decide)]
      refine Hs.run0 300 (fun _ => by kernel_rfl) ?_
      refine Hs.callGP (x := x) (F := fun _ => True) (s := s) (d := d) (d' := setD d t) (v := .int .i64 (setE t)) (C.imp fun w h => ⟨h, trivial⟩) rfl rfl (by kernel_rfl) (by kernel_rfl) (fun w' H hD => dset_any d s g t w' hD hf) (by kernel_rfl) (by kernel_rfl) (fun _ => (by kernel_rfl)) fun s2 w2 L2 C2 => ?_
      refine Hs.run0 300 (fun _ => by kernel_rfl) ?_
      exact Hs.ret (v := .int .i64 (setE t)) Tryz.func58 (by kernel_rfl) fun w' H => PQ.of (s := s2) (d := (setD d t)) (x := x) () C2 H rfl rfl (by kernel_rfl) (by kernel_rfl) fun w h => ⟨h.1, trivial⟩
end Go.Proofs.YtnfcdbjckdhieaaGreat
