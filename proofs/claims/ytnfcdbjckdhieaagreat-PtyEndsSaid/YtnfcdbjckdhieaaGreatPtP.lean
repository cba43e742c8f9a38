/- Layer 16: disciplines with lines, for the document's answer, and compared; for all disciplines; no condition but their number of lines. -/
import Derived.Test.YtnfcdbjckdhieaaGreatLdAKb
import Derived.Test.YtnfcdbjckdhieaaGreatEngAG
import Derived.Test.YtnfcdbjckdhieaaGreatEngAK
import Derived.Test.YtnfcdbjckdhieaaGreatLdAH
import Derived.Test.YtnfcdbjckdhieaaGreatPtA
namespace Go.Proofs.YtnfcdbjckdhieaaGreat
set_option linter.all false
set_option maxRecDepth 100000
open Go.RowKit

theorem elemRln : ElemT Tryz.prog 69 129 2 (Tryz.prog.bytesOf 129) := elemT_of (z := .agg #[.slice none 0 0, .bool false]) (by kernel_rfl) (by kernel_rfl) (by decide) (by decide)
theorem by_rln : Tryz.prog.bytesOf 129 = 32 := by kernel_rfl
def zeroDC : List SC := discSC (newD ⟨fun _ => 0, 0, 0, 0, 0, 0⟩) nilS
/-- The lines of a discipline, in new memory. -/
def DS.at_ (s : DS) (z : SX) : DS := { s with sa := z.1, sc := z.2 }
def LinesAt (s : DS) (z : SX) (w : World) : Prop := RdX cLn w z.1 s.xs ∧ s.xs.length ≤ z.2 ∧ z.2 ≤ maxLen
theorem Data.at_ {s : DS} {d : DM} {z : SX} {w : World} (h : Data s d w) (hz : LinesAt s z w) : Data (s.at_ z) d w := ⟨h.line, ⟨hz.1, hz.2.1, hz.2.2, h.lines.all⟩, h.map, h.raw, h.out⟩
set_option maxHeartbeats 4000000 in
theorem from16_any (d : DM) (s : DS) (g : Nat) (w : World) (hD : Data s d w) (h : Blk w g 96 (discV d s)) (hl : d.lines.length ≤ 100000) : Calls Tryz.prog 25 #[.pointer (some ⟨g, 0, none⟩)] w (NewX w (fun z : SX => .agg (discV d (s.at_ z)).toArray) (LinesAt s)) := by
  have hll := hD.llen
  obtain ⟨xs, hxs⟩ : ∃ xs, xs = s.xs := ⟨_, rfl⟩
  have hrd : RdX cLn w s.sa xs := hxs ▸ hD.lines.rd
  have hxl : d.lines.length = xs.length := by rw [hxs]; exact hll.symm
  have hlen : xs.length ≤ maxLen := by unfold maxLen; omega
  have J : ∀ (e i : Nat), xs.length - i = e → i ≤ xs.length → ∀ (A4 : Option Addr) (c4 : Nat) (b1 b2 : Nat) (u : Nat → Value), Hs Tryz.prog 25 (NewX w (fun z : SX => .agg (discV d (s.at_ z)).toArray) (LinesAt s)) (Tryz.f25).ntmps w [] [b1, b2, 0] ⟨.no, loopAt Tryz.f25 0, pins [(2, .c (.p 0 0)), (3, .c (.p 1 0)), (46, .c (.v (.slice s.sa xs.length s.sc))), (47, .c (.v (.int .i64 xs.length))), (48, .c (.v (.int .i64 i)))] (.vals u), [.b true 73 zeroDC, .b true 73 (discP d (s.at_ (A4, c4)) i), .s A4 c4 i 129 2 ((xs.take i).flatMap cLn)]⟩ := by
    intro e
    induction e with
    | zero =>
      intro i hd hi A4 c4 b1 b2 u
      obtain rfl : i = xs.length := by omega
      rw [List.take_length]
      refine Hs.run0 300 (fun _ => by kernel_rfl) ?_
      refine Hs.condP ((xs.length : Int) < (xs.length : Int)) (by kernel_rfl) (fun h => by omega) (fun _ => ?_)
      refine Hs.run0 300 (fun _ => by kernel_rfl) ?_
      exact Hs.ret (v := .agg ((discP d (s.at_ (A4, c4)) xs.length).map (SC.den [])).toArray) Tryz.func25 (by kernel_rfl) fun w' H => ⟨(A4, c4), by rw [← hxl]; rfl, H.only, fun L hL => by
        have h2 := H.fresh (cf := cLn) (E := 129) (size := 2) (A := A4) (cap := c4) (l := xs) 2 rfl (by kernel_rfl)
        obtain ⟨A1, cap1, e1, hc1, hc2, hrr, hA⟩ := h2.form
        injection e1 with e1 e2 e3
        subst e1; subst e3
        rw [hxs] at hrr hc1
        exact (rdX_keeps hrr fun a ha hx => by
          have := (hA a ha).1
          have := hL _ hx
          omega).imp fun w h => ⟨h, hc1, hc2⟩⟩
    | succ e ih =>
      intro i hd hi A4 c4 b1 b2 u
      have hil : i < xs.length := by omega
      obtain ⟨x, hxi⟩ : ∃ x, xs[i]? = some x := ⟨_, List.getElem?_eq_getElem hil⟩
      have htk : xs.take (i + 1) = xs.take i ++ [x] := by rw [List.take_add_one, hxi]; rfl
      obtain ⟨ab, aoff, hA, _, _⟩ := hrd (by omega)
      have hih := fun A4 c4 b1 b2 u => ih (i + 1) (by omega) (by omega) A4 c4 b1 b2 u
      rw [htk] at hih
      rw [hA] at hrd
      clear ih
      refine Hs.slot 46 (.c (.v (.slice (some ⟨ab, aoff, none⟩) xs.length s.sc))) rfl (by rw [← hA]; rfl) ?_
      refine Hs.run0 300 (fun _ => by kernel_rfl) ?_
      refine Hs.condP ((i : Int) < (xs.length : Int)) (by kernel_rfl) (fun _ => ?_) (fun h => by omega)
      refine Hs.run0 300 (fun _ => by kernel_rfl) ?_
      refine Hs.idx (b := ab) (off := aoff) (len := xs.length) (c := s.sc) (i := i) elemLn hil (by kernel_rfl) ?_
      refine Hs.ldx (cf := cLn) (size := 2) (E := 128) (b := ab) (off := aoff) (i := i) (l := xs) (x := x) cLn_len (.g x.sc) (by kernel_rfl) (fun w' H => hrd.only H.only) hxi (by kernel_rfl) (by kernel_rfl) rfl (by kernel_rfl) ?_
      refine Hs.run2 300 (fun _ => by kernel_rfl) fun b4 b5 => ?_
      refine Hs.app (cf := cLn) (c := 1) (ty := 69) 2 elemRln (xs.take i) [x] i 1 (by rw [List.length_take]; omega) rfl cLn_one cLn_len (A := A4) (B := some ⟨b5, 0, none⟩) (cap := c4) (by kernel_rfl) (by kernel_rfl) (by kernel_rfl) (fun w' H => H.rdB (cf := cLn) (wr := true) (T := 129) (cs := x.sc) (gs := [x]) 4 (by kernel_rfl) rfl) (by unfold maxLen; omega) (by rw [by_rln]; omega) fun A6 c6 h6 => ?_
      refine Hs.run0 300 (fun _ => by kernel_rfl) ?_
      refine Hs.slot 48 (.c (.v (.int .i64 (i + 1 : Nat)))) rfl ((by kernel_rfl : _ = Value.int .i64 (IntKind.i64.wrap ((i : Int) + 1))).trans (wrap_nextJ hlen)) ?_
      refine Hs.slot 46 (.c (.v (.slice s.sa xs.length s.sc))) rfl (by rw [hA]; kernel_rfl) ?_
      refine Hs.loop (by kernel_rfl) ?_
      exact Hs.goto (loopAt Tryz.f25 0) [0, 1, 2] [.b true 73 zeroDC, .b true 73 (discP d (s.at_ (A6, c6)) (i + 1)), .s A6 c6 (i + 1) 129 2 ((xs.take i ++ [x]).flatMap cLn)] [(2, .c (.p 0 0)), (3, .c (.p 1 0)), (46, .c (.v (.slice s.sa xs.length s.sc))), (47, .c (.v (.int .i64 xs.length))), (48, .c (.v (.int .i64 (i + 1 : Nat))))] (by kernel_rfl) (by decide) (by kernel_rfl) (by kernel_rfl) (fun _ => (by kernel_rfl)) (fun u => hih A6 c6 b1 b2 u)
  refine Hs.enter Tryz.func25 [] [g] [.b false 96 (discP d s xs.length)] [.c (.p 0 0)] (Mem.rdB1 w g (by rw [← hxl]; exact h)) (by kernel_rfl) (by kernel_rfl) ?_
  refine Hs.run1 300 (fun _ => by kernel_rfl) fun b1 => ?_
  refine Hs.any [0] (by kernel_rfl) ?_
  refine Hs.run1 300 (fun _ => by kernel_rfl) fun b2 => ?_
  refine Hs.nilS 129 2 (by kernel_rfl) ?_ (by kernel_rfl)
  refine Hs.loop (by kernel_rfl) ?_
  exact Hs.goto (loopAt Tryz.f25 0) [1, 2, 3] [.b true 73 zeroDC, .b true 73 (discP d (s.at_ (none, 0)) 0), .s none 0 0 129 2 (([] : List Ln).flatMap cLn)] [(2, .c (.p 0 0)), (3, .c (.p 1 0)), (46, .c (.v (.slice s.sa xs.length s.sc))), (47, .c (.v (.int .i64 xs.length))), (48, .c (.v (.int .i64 (0 : Nat))))] (by kernel_rfl) (by decide) (by kernel_rfl) (by kernel_rfl) (fun _ => (by kernel_rfl)) (fun u => J xs.length 0 (by omega) (by omega) none 0 b1 b2 u)
set_option maxHeartbeats 4000000 in
theorem same13_any (xs ys : List Ln) (A B : Option Addr) (ca cb n : Nat) (w : World) (hx : xs.length = n) (hy : ys.length = n) (ha : RdX cLn w A xs) (hb : RdX cLn w B ys) (ox : ∀ x ∈ xs, LnOk w x) (oy : ∀ x ∈ ys, LnOk w x) (hm : xs.map Ln.m = ys.map Ln.m) (hlen : n ≤ maxLen) : Calls Tryz.prog 55 #[.slice A n ca, .slice B n cb] w fun e w' => e = .returned (.bool true) ∧ Only [] w w' := by
  have J : ∀ (d i : Nat), n - i = d → i ≤ n → ∀ (u : Nat → Value), Hs Tryz.prog 55 (fun e w' => e = .returned (.bool true) ∧ Only [] w w') (Tryz.f55).ntmps w [] [] ⟨.no, loopAt Tryz.f55 0, pins [(0, .c (.v (.slice A n ca))), (1, .c (.v (.slice B n cb))), (12, .c (.v (.int .i64 n))), (13, .c (.v (.int .i64 (i : Nat))))] (.vals u), []⟩ := by
    intro d
    induction d with
    | zero =>
      intro i hd hi u
      refine Hs.run0 300 (fun _ => by kernel_rfl) ?_
      refine Hs.condP ((i : Int) < (n : Int)) (by kernel_rfl) (fun h => by omega) (fun h => ?_)
      refine Hs.run0 300 (fun _ => by kernel_rfl) ?_
      exact Hs.ret (v := .bool true) Tryz.func55 (by kernel_rfl) fun w' H => ⟨rfl, H.only⟩
    | succ d ih =>
      intro i hd hi u
      have hil : i < n := by omega
      obtain ⟨x1, h1⟩ : ∃ x, xs[i]? = some x := ⟨_, List.getElem?_eq_getElem (by omega)⟩
      obtain ⟨x2, h2⟩ : ∃ x, ys[i]? = some x := ⟨_, List.getElem?_eq_getElem (by omega)⟩
      have e : (xs.map Ln.m)[i]? = (ys.map Ln.m)[i]? := by rw [hm]
      rw [List.getElem?_map, List.getElem?_map, h1, h2] at e
      have o1 := ox x1 (List.mem_of_getElem? h1)
      have o2 := oy x2 (List.mem_of_getElem? h2)
      obtain ⟨A1, c1, t1, e1⟩ := x1
      obtain ⟨A2, c2, t2, e2⟩ := x2
      injection e with e
      injection e with e3 e4
      have e3 : t1 = t2 := e3
      have e4 : e1 = e2 := e4
      subst e3
      subst e4
      replace o1 : RdU w A1 c1 t1 := o1
      replace o2 : RdU w A2 c2 t1 := o2
      obtain ⟨ab, aoff, hA, _, _⟩ := ha (by omega)
      obtain ⟨bb, boff, hB, _, _⟩ := hb (by omega)
      have hih := fun u => ih (i + 1) (by omega) (by omega) u
      clear ih
      subst hA; subst hB
      refine Hs.run0 300 (fun _ => by kernel_rfl) ?_
      refine Hs.condP ((i : Int) < (n : Int)) (by kernel_rfl) (fun h => ?_) (fun h => by omega)
      refine Hs.run0 300 (fun _ => by kernel_rfl) ?_
      refine Hs.any [] (by kernel_rfl) ?_
      refine Hs.run0 300 (fun _ => by kernel_rfl) ?_
      refine Hs.takeIdx (rd := []) 2 elemRln (b := ab) (off := aoff) (c := ca) (len := n) (i := i) hil (by kernel_rfl) ?_
      refine Hs.takeIdx (rd := []) 7 elemRln (b := bb) (off := boff) (c := cb) (len := n) (i := i) hil (by kernel_rfl) ?_
      refine Hs.rung0 [] 2 (fun _ => by kernel_rfl) ?_
      refine Hs.branch2 4 9 (by kernel_rfl) ?_ ?_
      · refine Hs.ldc (E' := 4) (b := ab) (off := aoff + i * 2 + 1) (.bool e1) (by kernel_rfl) (fun w' H => rdX_cell cLn_len (ha.only H.only) h1 (j := 1) (v := .bool e1) rfl) (by kernel_rfl) ?_
        refine Hs.run0 300 (fun _ => by kernel_rfl) ?_
        refine Hs.ldc (E' := 4) (b := bb) (off := boff + i * 2 + 1) (.bool e1) (by kernel_rfl) (fun w' H => rdX_cell cLn_len (hb.only H.only) h2 (j := 1) (v := .bool e1) rfl) (by kernel_rfl) ?_
        refine Hs.run0 300 (fun _ => by kernel_rfl) ?_
        refine Hs.bool 27 (e1 != e1) (by kernel_rfl) (fun h => by simp at h) (fun _ => ?_)
        refine Hs.rung0 [11] 300 (fun _ => by kernel_rfl) ?_
        refine Hs.takeIdxG (rd := []) [11] 14 elemRln (b := ab) (off := aoff) (c := ca) (len := n) (i := i) hil (by kernel_rfl) ?_
        refine Hs.takeIdxG (rd := []) [11] 19 elemRln (b := bb) (off := boff) (c := cb) (len := n) (i := i) hil (by kernel_rfl) ?_
        refine Hs.rung0 [11] 2 (fun _ => by kernel_rfl) ?_
        refine Hs.branch2 16 21 (by kernel_rfl) ?_ ?_
        · refine Hs.rung0 [11] 1 (fun _ => by kernel_rfl) ?_
          refine Hs.ldc (E' := 27) (b := ab) (off := aoff + i * 2 + 0) (.slice A1 t1.length c1) (by kernel_rfl) (fun w' H => rdX_cell cLn_len (ha.only H.only) h1 (j := 0) (v := .slice A1 t1.length c1) rfl) (by kernel_rfl) ?_
          refine Hs.rung0 [11] 300 (fun _ => by kernel_rfl) ?_
          refine Hs.ldc (E' := 27) (b := bb) (off := boff + i * 2 + 0) (.slice A2 t1.length c2) (by kernel_rfl) (fun w' H => rdX_cell cLn_len (hb.only H.only) h2 (j := 0) (v := .slice A2 t1.length c2) rfl) (by kernel_rfl) ?_
          refine Hs.rung0 [11] 300 (fun _ => by kernel_rfl) ?_
          refine Hs.callV (fun w' H => bytes16_true A1 A2 c1 c2 t1 t1.length t1.length rfl rfl w' (o1.1.only H.only) (o2.1.only H.only) (Nat.le_trans o1.2.1 o1.2.2)) (by kernel_rfl) ?_
          refine Hs.rung0 [11] 300 (fun _ => by kernel_rfl) ?_
          refine Hs.condF (by kernel_rfl) ?_
          refine Hs.run0 300 (fun _ => by kernel_rfl) ?_
          refine Hs.slot 13 (.c (.v (.int .i64 (i + 1 : Nat)))) rfl ((by kernel_rfl : _ = Value.int .i64 (IntKind.i64.wrap ((i : Int) + 1))).trans (wrap_nextJ hlen)) ?_
          refine Hs.loop (by kernel_rfl) ?_
          exact Hs.goto (loopAt Tryz.f55 0) [] [] [(0, .c (.v (.slice (some ⟨ab, aoff, none⟩) n ca))), (1, .c (.v (.slice (some ⟨bb, boff, none⟩) n cb))), (12, .c (.v (.int .i64 n))), (13, .c (.v (.int .i64 (i + 1 : Nat))))] (by kernel_rfl) (by decide) (by kernel_rfl) (by kernel_rfl) (fun _ => (by kernel_rfl)) (fun u => hih u)
        · refine Hs.rung0 [11] 1 (fun _ => by kernel_rfl) ?_
          refine Hs.ldc (E' := 27) (b := bb) (off := boff + i * 2 + 0) (.slice A2 t1.length c2) (by kernel_rfl) (fun w' H => rdX_cell cLn_len (hb.only H.only) h2 (j := 0) (v := .slice A2 t1.length c2) rfl) (by kernel_rfl) ?_
          refine Hs.rung0 [11] 300 (fun _ => by kernel_rfl) ?_
          refine Hs.ldc (E' := 27) (b := ab) (off := aoff + i * 2 + 0) (.slice A1 t1.length c1) (by kernel_rfl) (fun w' H => rdX_cell cLn_len (ha.only H.only) h1 (j := 0) (v := .slice A1 t1.length c1) rfl) (by kernel_rfl) ?_
          refine Hs.rung0 [11] 300 (fun _ => by kernel_rfl) ?_
          refine Hs.callV (fun w' H => bytes16_true A1 A2 c1 c2 t1 t1.length t1.length rfl rfl w' (o1.1.only H.only) (o2.1.only H.only) (Nat.le_trans o1.2.1 o1.2.2)) (by kernel_rfl) ?_
          refine Hs.rung0 [11] 300 (fun _ => by kernel_rfl) ?_
          refine Hs.condF (by kernel_rfl) ?_
          refine Hs.run0 300 (fun _ => by kernel_rfl) ?_
          refine Hs.slot 13 (.c (.v (.int .i64 (i + 1 : Nat)))) rfl ((by kernel_rfl : _ = Value.int .i64 (IntKind.i64.wrap ((i : Int) + 1))).trans (wrap_nextJ hlen)) ?_
          refine Hs.loop (by kernel_rfl) ?_
          exact Hs.goto (loopAt Tryz.f55 0) [] [] [(0, .c (.v (.slice (some ⟨ab, aoff, none⟩) n ca))), (1, .c (.v (.slice (some ⟨bb, boff, none⟩) n cb))), (12, .c (.v (.int .i64 n))), (13, .c (.v (.int .i64 (i + 1 : Nat))))] (by kernel_rfl) (by decide) (by kernel_rfl) (by kernel_rfl) (fun _ => (by kernel_rfl)) (fun u => hih u)
      · refine Hs.ldc (E' := 4) (b := bb) (off := boff + i * 2 + 1) (.bool e1) (by kernel_rfl) (fun w' H => rdX_cell cLn_len (hb.only H.only) h2 (j := 1) (v := .bool e1) rfl) (by kernel_rfl) ?_
        refine Hs.run0 300 (fun _ => by kernel_rfl) ?_
        refine Hs.ldc (E' := 4) (b := ab) (off := aoff + i * 2 + 1) (.bool e1) (by kernel_rfl) (fun w' H => rdX_cell cLn_len (ha.only H.only) h1 (j := 1) (v := .bool e1) rfl) (by kernel_rfl) ?_
        refine Hs.run0 300 (fun _ => by kernel_rfl) ?_
        refine Hs.bool 27 (e1 != e1) (by kernel_rfl) (fun h => by simp at h) (fun _ => ?_)
        refine Hs.rung0 [11] 300 (fun _ => by kernel_rfl) ?_
        refine Hs.takeIdxG (rd := []) [11] 14 elemRln (b := ab) (off := aoff) (c := ca) (len := n) (i := i) hil (by kernel_rfl) ?_
        refine Hs.takeIdxG (rd := []) [11] 19 elemRln (b := bb) (off := boff) (c := cb) (len := n) (i := i) hil (by kernel_rfl) ?_
        refine Hs.rung0 [11] 2 (fun _ => by kernel_rfl) ?_
        refine Hs.branch2 16 21 (by kernel_rfl) ?_ ?_
        · refine Hs.rung0 [11] 1 (fun _ => by kernel_rfl) ?_
          refine Hs.ldc (E' := 27) (b := ab) (off := aoff + i * 2 + 0) (.slice A1 t1.length c1) (by kernel_rfl) (fun w' H => rdX_cell cLn_len (ha.only H.only) h1 (j := 0) (v := .slice A1 t1.length c1) rfl) (by kernel_rfl) ?_
          refine Hs.rung0 [11] 300 (fun _ => by kernel_rfl) ?_
          refine Hs.ldc (E' := 27) (b := bb) (off := boff + i * 2 + 0) (.slice A2 t1.length c2) (by kernel_rfl) (fun w' H => rdX_cell cLn_len (hb.only H.only) h2 (j := 0) (v := .slice A2 t1.length c2) rfl) (by kernel_rfl) ?_
          refine Hs.rung0 [11] 300 (fun _ => by kernel_rfl) ?_
          refine Hs.callV (fun w' H => bytes16_true A1 A2 c1 c2 t1 t1.length t1.length rfl rfl w' (o1.1.only H.only) (o2.1.only H.only) (Nat.le_trans o1.2.1 o1.2.2)) (by kernel_rfl) ?_
          refine Hs.rung0 [11] 300 (fun _ => by kernel_rfl) ?_
          refine Hs.condF (by kernel_rfl) ?_
          refine Hs.run0 300 (fun _ => by kernel_rfl) ?_
          refine Hs.slot 13 (.c (.v (.int .i64 (i + 1 : Nat)))) rfl ((by kernel_rfl : _ = Value.int .i64 (IntKind.i64.wrap ((i : Int) + 1))).trans (wrap_nextJ hlen)) ?_
          refine Hs.loop (by kernel_rfl) ?_
          exact Hs.goto (loopAt Tryz.f55 0) [] [] [(0, .c (.v (.slice (some ⟨ab, aoff, none⟩) n ca))), (1, .c (.v (.slice (some ⟨bb, boff, none⟩) n cb))), (12, .c (.v (.int .i64 n))), (13, .c (.v (.int .i64 (i + 1 : Nat))))] (by kernel_rfl) (by decide) (by kernel_rfl) (by kernel_rfl) (fun _ => (by kernel_rfl)) (fun u => hih u)
        · refine Hs.rung0 [11] 1 (fun _ => by kernel_rfl) ?_
          refine Hs.ldc (E' := 27) (b := bb) (off := boff + i * 2 + 0) (.slice A2 t1.length c2) (by kernel_rfl) (fun w' H => rdX_cell cLn_len (hb.only H.only) h2 (j := 0) (v := .slice A2 t1.length c2) rfl) (by kernel_rfl) ?_
          refine Hs.rung0 [11] 300 (fun _ => by kernel_rfl) ?_
          refine Hs.ldc (E' := 27) (b := ab) (off := aoff + i * 2 + 0) (.slice A1 t1.length c1) (by kernel_rfl) (fun w' H => rdX_cell cLn_len (ha.only H.only) h1 (j := 0) (v := .slice A1 t1.length c1) rfl) (by kernel_rfl) ?_
          refine Hs.rung0 [11] 300 (fun _ => by kernel_rfl) ?_
          refine Hs.callV (fun w' H => bytes16_true A1 A2 c1 c2 t1 t1.length t1.length rfl rfl w' (o1.1.only H.only) (o2.1.only H.only) (Nat.le_trans o1.2.1 o1.2.2)) (by kernel_rfl) ?_
          refine Hs.rung0 [11] 300 (fun _ => by kernel_rfl) ?_
          refine Hs.condF (by kernel_rfl) ?_
          refine Hs.run0 300 (fun _ => by kernel_rfl) ?_
          refine Hs.slot 13 (.c (.v (.int .i64 (i + 1 : Nat)))) rfl ((by kernel_rfl : _ = Value.int .i64 (IntKind.i64.wrap ((i : Int) + 1))).trans (wrap_nextJ hlen)) ?_
          refine Hs.loop (by kernel_rfl) ?_
          exact Hs.goto (loopAt Tryz.f55 0) [] [] [(0, .c (.v (.slice (some ⟨ab, aoff, none⟩) n ca))), (1, .c (.v (.slice (some ⟨bb, boff, none⟩) n cb))), (12, .c (.v (.int .i64 n))), (13, .c (.v (.int .i64 (i + 1 : Nat))))] (by kernel_rfl) (by decide) (by kernel_rfl) (by kernel_rfl) (fun _ => (by kernel_rfl)) (fun u => hih u)
  refine Hs.enter Tryz.func55 [] [] [] [.c (.v (.slice A n ca)), .c (.v (.slice B n cb))] (Mem.start0 w) (by kernel_rfl) (by kernel_rfl) ?_
  refine Hs.run0 300 (fun _ => by kernel_rfl) ?_
  refine Hs.cond ((n : Int) != (n : Int)) (by kernel_rfl) (fun h => by simp at h) (fun _ => ?_)
  refine Hs.run0 300 (fun _ => by kernel_rfl) ?_
  refine Hs.loop (by kernel_rfl) ?_
  exact Hs.goto (loopAt Tryz.f55 0) [] [] [(0, .c (.v (.slice A n ca))), (1, .c (.v (.slice B n cb))), (12, .c (.v (.int .i64 n))), (13, .c (.v (.int .i64 (0 : Nat))))] (by kernel_rfl) (by decide) (by kernel_rfl) (by kernel_rfl) (fun _ => (by kernel_rfl)) (fun u => J _ 0 rfl (by omega) u)
theorem same16_any (d : DM) (s1 s2 : DS) (w : World) (h1 : Data s1 d w) (h2 : Data s2 d w) : Calls Tryz.prog 24 #[.agg (discV d s1).toArray, .agg (discV d s2).toArray] w fun e w' => e = .returned (.bool true) ∧ Only [] w w' := by
  have l1 := h1.llen
  have l2 := h2.llen
  have hm := h1.map.trans h2.map.symm
  have hlen : d.lines.length ≤ maxLen := by rw [← l1]; exact Nat.le_trans h1.lines.le h1.lines.cap
  obtain ⟨t, line, next, lines, raw, st, held, out, col, frm, idle⟩ := d
  refine Hs.enter Tryz.func24 [] [] [] [.g (discSC ⟨t, line, next, lines, raw, st, held, out, col, frm, idle⟩ s1), .g (discSC ⟨t, line, next, lines, raw, st, held, out, col, frm, idle⟩ s2)] (Mem.start0 w) (by kernel_rfl) (by kernel_rfl) ?_
  refine Hs.run2 12 (fun _ => by kernel_rfl) fun b0 b1 => ?_
  refine Hs.sameA (op := .eql) (T := 26) (TM.cells t).toArray true (by kernel_rfl) (.inl ⟨rfl, rfl⟩) (by kernel_rfl) ?_
  refine Hs.rung0 [5] 300 (fun _ => by kernel_rfl) ?_
  refine Hs.callV (fun w' H => bytes16_true s1.la s2.la s1.lc s2.lc line line.length line.length rfl rfl w' (h1.line.1.only H.only) (h2.line.1.only H.only) (Nat.le_trans h1.line.2.1 h1.line.2.2)) (by kernel_rfl) ?_
  refine Hs.rung0 [5, 12] 300 (fun _ => by kernel_rfl) ?_
  refine Hs.bool 24 (next == next) (by kernel_rfl) (fun _ => ?_) (fun h => by simp at h)
  refine Hs.rung0 [12, 19] 300 (fun _ => by kernel_rfl) ?_
  refine Hs.callV (fun w' H => same13_any s1.xs s2.xs s1.sa s2.sa s1.sc s2.sc lines.length w' l1 l2 (h1.lines.rd.only H.only) (h2.lines.rd.only H.only) (fun x hx => (h1.lines.all x hx).only H.only) (fun x hx => (h2.lines.all x hx).only H.only) hm hlen) (by kernel_rfl) ?_
  refine Hs.rung0 [19, 26] 300 (fun _ => by kernel_rfl) ?_
  refine Hs.callV (fun w' H => bytes16_true s1.ra s2.ra s1.rc s2.rc raw raw.length raw.length rfl rfl w' (h1.raw.1.only H.only) (h2.raw.1.only H.only) (Nat.le_trans h1.raw.2.1 h1.raw.2.2)) (by kernel_rfl) ?_
  refine Hs.rung0 [26, 33] 11 (fun _ => by kernel_rfl) ?_
  refine Hs.same (op := .eql) (T := 71) #[.bool st, .bool held] true (by kernel_rfl) (.inl ⟨rfl, rfl⟩) (by kernel_rfl) ?_
  refine Hs.rung0 [33, 40] 300 (fun _ => by kernel_rfl) ?_
  refine Hs.callV (fun w' H => bytes16_true s1.oa s2.oa s1.oc s2.oc out out.length out.length rfl rfl w' (h1.out.1.only H.only) (h2.out.1.only H.only) (Nat.le_trans h1.out.2.1 h1.out.2.2)) (by kernel_rfl) ?_
  refine Hs.rung0 [40, 47] 300 (fun _ => by kernel_rfl) ?_
  refine Hs.bool 59 (col == col) (by kernel_rfl) (fun _ => ?_) (fun h => by simp at h)
  refine Hs.rung0 [47, 54] 300 (fun _ => by kernel_rfl) ?_
  refine Hs.bool 66 (frm == frm) (by kernel_rfl) (fun _ => ?_) (fun h => by simp at h)
  refine Hs.rung0 [54, 61] 300 (fun _ => by kernel_rfl) ?_
  exact Hs.ret (v := .bool (idle == idle)) Tryz.func24 (by kernel_rfl) fun w' H => ⟨by simp, H.only⟩
end Go.Proofs.YtnfcdbjckdhieaaGreat
