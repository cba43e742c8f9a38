/- Layer 17: the end, sizes, what a program writes; for all terminals; no condition but their size. -/
import Derived.Test.YtnfcdbjckdhieaaGreatPtB
import Derived.Test.YtnfcdbjckdhieaaGreatEngAI
namespace Go.Proofs.YtnfcdbjckdhieaaGreat
set_option linter.all false
set_option maxRecDepth 100000
open Go.RowKit

def hangP (x : PM) (d : DM) : PM × DM × List (Int × Int) := if x.hung then (x, d, []) else ({ x with hung := true }, (flushD d 3).1, evL x.grp [1, 18])
def evV (l : List (Int × Int)) (z : SX) : Value := .slice z.1 l.length z.2
theorem phang_any (x : PM) (d : DM) (s : DS) (p g : Nat) (w : World) (h : PAt w p g x d s) : Calls Tryz.prog 32 #[.pointer (some ⟨p, 0, none⟩)] w (PQ w p g s d (hangP x d).1 (hangP x d).2.1 (evV (hangP x d).2.2) fun z w => RdE w z (hangP x d).2.2) := by
  have C := h.gx
  refine Hs.enter Tryz.func32 [p, g] [p, g] [.b true 42 (ptySC x 1), .b true 96 (discSC d s)] [.c (.p 0 0)] h.mem (by kernel_rfl) (by kernel_rfl) ?_
  unfold hangP
  refine Hs.rung0 [2] 300 (fun _ => by kernel_rfl) ?_
  refine Hs.cond x.hung (by kernel_rfl) (fun h1 => ?_) (fun h1 => ?_)
  · rw [if_pos h1]
    refine Hs.run0 300 (fun _ => by kernel_rfl) ?_
    exact Hs.ret (v := .slice none 0 0) Tryz.func32 (by kernel_rfl) fun w' H => PQ.of (s := s) (d := d) (x := x) (none, 0) C H rfl rfl (by kernel_rfl) (by kernel_rfl) fun w h => ⟨h, rdX_nil, Nat.le_refl _, by unfold maxLen; omega⟩
  rw [if_neg (by rw [h1]; decide)]
  refine Hs.run0 300 (fun _ => by kernel_rfl) ?_
  refine Hs.callV (fun w' H => pdisc_any { x with hung := true } p g w' (mem_pty H rfl rfl (by kernel_rfl))) (by kernel_rfl) ?_
  refine Hs.run0 300 (fun _ => by kernel_rfl) ?_
  refine Hs.callGP (x := { x with hung := true }) (F := fun _ => True) (s := s) (d := d) (d' := (flushD d 3).1) (v := .int .i64 (flushD d 3).2) (C.imp fun w h => ⟨h, trivial⟩) rfl rfl (by kernel_rfl) (by kernel_rfl) (fun w' H hD => flush_any d s g 3 w' hD) (by kernel_rfl) (by kernel_rfl) (fun _ => (by kernel_rfl)) fun s1 w1 L1 C1 => ?_
  refine Hs.run1 300 (fun _ => by kernel_rfl) fun b4 => ?_
  refine Hs.callGM (v := fun z : SX => .slice z.1 (evL x.grp [1, 18]).length z.2) (Q := fun z w => RdE w z (evL x.grp [1, 18])) C1 (hG2 (T1 := 42) (T2 := 96) (c1 := ptySC { x with hung := true } 1) (c2 := discSC (flushD d 3).1 s1) rfl rfl (by kernel_rfl) (by kernel_rfl)) (fun w' H => pevents_any { x with hung := true } p g (some ⟨b4, 0, none⟩) 2 [1, 18] w' (mem_pty H rfl rfl (by kernel_rfl)) (H.rdB (cf := ci64) (wr := true) (T := 3) (cs := [.v (.int .i64 1), .v (.int .i64 18)]) (gs := [(1 : Int), 18]) 2 (by kernel_rfl) rfl) (by decide)) (by kernel_rfl) (by kernel_rfl) fun z w2 L2 C2 => ?_
  refine Hs.run0 300 (fun _ => by kernel_rfl) ?_
  exact Hs.ret (v := .slice z.1 (evL x.grp [1, 18]).length z.2) Tryz.func32 (by kernel_rfl) fun w' H => PQ.of (s := s1) (d := (flushD d 3).1) (x := { x with hung := true }) z C2 H rfl rfl (by kernel_rfl) (by kernel_rfl) fun w h => ⟨h.2.1, h.1⟩
/-- A size. -/
structure SZ where
  co : Int
  ro : Int
  wi : Int
  he : Int
def SZ.sc (q : SZ) : List SC := [.v (.int .u32 q.co), .v (.int .u32 q.ro), .v (.int .u32 q.wi), .v (.int .u32 q.he)]
def SZ.cells (q : SZ) : List Value := [.int .u32 q.co, .int .u32 q.ro, .int .u32 q.wi, .int .u32 q.he]
def SZ.val (q : SZ) : Value := .agg q.cells.toArray
def sizeB (x : PM) (q : SZ) : Bool := q.co == x.co && (q.ro == x.ro && (q.wi == x.wi && (q.he == x.he && true)))
def PM.size (x : PM) (q : SZ) : PM := { x with co := q.co, ro := q.ro, wi := q.wi, he := q.he }
def sizeP (x : PM) (q : SZ) : PM × List (Int × Int) := if sizeB x q then (x, []) else (x.size q, evL x.grp [28])
theorem psize_any (q : SZ) (x : PM) (d : DM) (s : DS) (p g : Nat) (w : World) (h : PAt w p g x d s) : Calls Tryz.prog 11 #[.pointer (some ⟨p, 0, none⟩), q.val] w (PQ w p g s d (sizeP x q).1 d (evV (sizeP x q).2) fun z w => RdE w z (sizeP x q).2) := by
  have C := h.gx
  refine Hs.enter Tryz.func11 [p, g] [p, g] [.b true 42 (ptySC x 1), .b true 96 (discSC d s)] [.c (.p 0 0), .g q.sc] h.mem (by kernel_rfl) (by kernel_rfl) ?_
  unfold sizeP
  refine Hs.run1 300 (fun _ => by kernel_rfl) fun b2 => ?_
  refine Hs.any [0, 2] (by kernel_rfl) ?_
  refine Hs.rung0 [2] 8 (fun _ => by kernel_rfl) ?_
  refine Hs.sel1 8 (by kernel_rfl) ?_
  refine Hs.rung0 [2] 1 (fun _ => by kernel_rfl) ?_
  refine Hs.cmp (op := .eql) (T := 32) q.cells.toArray #[.int .u32 x.co, .int .u32 x.ro, .int .u32 x.wi, .int .u32 x.he] (sizeB x q) (sizeB x q) (by kernel_rfl) (.inl ⟨rfl, rfl⟩) (by kernel_rfl) (by kernel_rfl) ?_
  refine Hs.rung0 [2] 300 (fun _ => by kernel_rfl) ?_
  refine Hs.cond (sizeB x q) (by kernel_rfl) (fun h1 => ?_) (fun h1 => ?_)
  · rw [if_pos h1]
    refine Hs.run0 300 (fun _ => by kernel_rfl) ?_
    exact Hs.ret (v := .slice none 0 0) Tryz.func11 (by kernel_rfl) fun w' H => PQ.of (s := s) (d := d) (x := x) (none, 0) C H rfl rfl (by kernel_rfl) (by kernel_rfl) fun w h => ⟨h, rdX_nil, Nat.le_refl _, by unfold maxLen; omega⟩
  rw [if_neg (by rw [h1]; decide)]
  refine Hs.run1 300 (fun _ => by kernel_rfl) fun b4 => ?_
  refine Hs.callGM (v := fun z : SX => .slice z.1 (evL x.grp [28]).length z.2) (Q := fun z w => RdE w z (evL x.grp [28])) C (hG2 (T1 := 42) (T2 := 96) (c1 := ptySC (x.size q) 1) (c2 := discSC d s) rfl rfl (by kernel_rfl) (by kernel_rfl)) (fun w' H => pevents_any (x.size q) p g (some ⟨b4, 0, none⟩) 1 [28] w' (mem_pty H rfl rfl (by kernel_rfl)) (H.rdB (cf := ci64) (wr := true) (T := 3) (cs := [.v (.int .i64 28)]) (gs := [(28 : Int)]) 3 (by kernel_rfl) rfl) (by decide)) (by kernel_rfl) (by kernel_rfl) fun z w2 L2 C2 => ?_
  refine Hs.run0 300 (fun _ => by kernel_rfl) ?_
  exact Hs.ret (v := .slice z.1 (evL x.grp [28]).length z.2) Tryz.func11 (by kernel_rfl) fun w' H => PQ.of (s := s) (d := d) (x := x.size q) z C2 H rfl rfl (by kernel_rfl) (by kernel_rfl) fun w h => ⟨h.2, h.1⟩
def swriteP (x : PM) (d : DM) (b : List Int) : DM × Int × Int := if x.hung then (d, 0, 11) else if ((fitN d b : Nat) : Int) = 0 ∧ (b.length : Int) > 0 then (writeD d b, 0, 10) else (writeD d b, fitN d b, 0)
theorem pswrite_any (A : Option Addr) (c : Nat) (b : List Int) (x : PM) (d : DM) (s : DS) (p g : Nat) (w : World) (h : PAt w p g x d s) (hf : Few d) (hb : Keeps w [p, g] (fun w => RdU w A c b)) (hbl : b.length ≤ 250000) : Calls Tryz.prog 17 #[.pointer (some ⟨p, 0, none⟩), .slice A b.length c] w (PN w p g s d x (swriteP x d b).1 (.tuple #[.int .i64 (swriteP x d b).2.1, .int .i64 (swriteP x d b).2.2])) := by
  have C := h.gx
  refine Hs.enter Tryz.func17 [p, g] [p, g] [.b true 42 (ptySC x 1), .b true 96 (discSC d s)] [.c (.p 0 0), .c (.v (.slice A b.length c))] h.mem (by kernel_rfl) (by kernel_rfl) ?_
  unfold swriteP
  refine Hs.run0 300 (fun _ => by kernel_rfl) ?_
  refine Hs.condF (by kernel_rfl) ?_
  refine Hs.run0 300 (fun _ => by kernel_rfl) ?_
  refine Hs.cond x.hung (by kernel_rfl) (fun h1 => ?_) (fun h1 => ?_)
  · rw [if_pos h1]
    refine Hs.run0 300 (fun _ => by kernel_rfl) ?_
    exact Hs.ret (v := .tuple #[.int .i64 0, .int .i64 11]) Tryz.func17 (by kernel_rfl) fun w' H => PQ.of (s := s) (d := d) (x := x) () C H rfl rfl (by kernel_rfl) (by kernel_rfl) fun w h => ⟨h, trivial⟩
  rw [if_neg (by rw [h1]; decide)]
  refine Hs.run0 300 (fun _ => by kernel_rfl) ?_
  refine Hs.callV (fun w' H => pdisc_any x p g w' (mem_pty H rfl rfl (by kernel_rfl))) (by kernel_rfl) ?_
  refine Hs.run0 300 (fun _ => by kernel_rfl) ?_
  refine Hs.callGP (x := x) (F := fun _ => True) (s := s) (d := d) (d' := writeD d b) (v := .int .i64 (fitN d b)) (C.imp fun w h => ⟨h, trivial⟩) rfl rfl (by kernel_rfl) (by kernel_rfl) (fun w' H hD => write_any16 d s g A c b w' hD hf (fun w2 O2 => hb w2 ((C.only H).trans (O2.mono (by simp)) (fun x hx => .inl hx))) hbl) (by kernel_rfl) (by kernel_rfl) (fun _ => (by kernel_rfl)) fun s1 w1 L1 C1 => ?_
  generalize fitN d b = k
  generalize writeD d b = d2 at C1 ⊢
  refine Hs.run0 300 (fun _ => by kernel_rfl) ?_
  refine Hs.bool 21 ((k : Int) == 0) (by kernel_rfl) (fun h2 => ?_) (fun h2 => ?_)
  · replace h2 : (k : Int) = 0 := by simpa using h2
    refine Hs.rung0 [2] 300 (fun _ => by kernel_rfl) ?_
    refine Hs.condP ((b.length : Int) > 0) (by kernel_rfl) (fun h3 => ?_) (fun h3 => ?_)
    · rw [if_pos ⟨h2, h3⟩]
      refine Hs.run0 300 (fun _ => by kernel_rfl) ?_
      exact Hs.ret (v := .tuple #[.int .i64 0, .int .i64 10]) Tryz.func17 (by kernel_rfl) fun w' H => PQ.of (s := s1) (d := d2) (x := x) () C1 H rfl rfl (by kernel_rfl) (by kernel_rfl) fun w h => ⟨h.1, trivial⟩
    · rw [if_neg fun h => h3 h.2]
      refine Hs.run0 300 (fun _ => by kernel_rfl) ?_
      exact Hs.ret (v := .tuple #[.int .i64 k, .int .i64 0]) Tryz.func17 (by kernel_rfl) fun w' H => PQ.of (s := s1) (d := d2) (x := x) () C1 H rfl rfl (by kernel_rfl) (by kernel_rfl) fun w h => ⟨h.1, trivial⟩
  · replace h2 : ¬ (k : Int) = 0 := by simpa using h2
    rw [if_neg fun h => h2 h.1]
    refine Hs.rung0 [2] 300 (fun _ => by kernel_rfl) ?_
    refine Hs.condF (by kernel_rfl) ?_
    refine Hs.run0 300 (fun _ => by kernel_rfl) ?_
    exact Hs.ret (v := .tuple #[.int .i64 k, .int .i64 0]) Tryz.func17 (by kernel_rfl) fun w' H => PQ.of (s := s1) (d := d2) (x := x) () C1 H rfl rfl (by kernel_rfl) (by kernel_rfl) fun w h => ⟨h.1, trivial⟩
end Go.Proofs.YtnfcdbjckdhieaaGreat
