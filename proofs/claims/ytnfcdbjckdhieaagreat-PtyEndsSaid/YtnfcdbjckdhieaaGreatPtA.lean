/- Layer 17: a terminal with its discipline: the model; small methods; for all terminals; no condition. -/
import Derived.Test.YtnfcdbjckdhieaaGreatEngAH
import Derived.Test.YtnfcdbjckdhieaaGreatLdAW
import Derived.Test.YtnfcdbjckdhieaaGreatPkG
namespace Go.Proofs.YtnfcdbjckdhieaaGreat
set_option linter.all false
set_option maxRecDepth 100000
open Go.RowKit

/-- A terminal, but for its discipline. -/
structure PM where
  co : Int
  ro : Int
  wi : Int
  he : Int
  ses : Int
  grp : Int
  sl : Int
  hung : Bool
def PM.szv (x : PM) : List Value := [.int .u32 x.co, .int .u32 x.ro, .int .u32 x.wi, .int .u32 x.he]
def ptySC (x : PM) (k : Nat) : List SC := [.p k 0, .v (.int .u32 x.co), .v (.int .u32 x.ro), .v (.int .u32 x.wi), .v (.int .u32 x.he), .v (.int .i64 x.ses), .v (.int .i64 x.grp), .v (.int .i64 x.sl), .v (.bool x.hung)]
def ptyV (x : PM) (g : Nat) : List Value := [.pointer (some ⟨g, 0, none⟩), .int .u32 x.co, .int .u32 x.ro, .int .u32 x.wi, .int .u32 x.he, .int .i64 x.ses, .int .i64 x.grp, .int .i64 x.sl, .bool x.hung]
def ptyRC (x : PM) (g : Nat) : List SC := (ptyV x g).map SC.v
/-- A terminal in memory. -/
structure PAt (w : World) (p g : Nat) (x : PM) (d : DM) (s : DS) : Prop where
  pb : Blk w p 42 (ptyV x g)
  db : Blk w g 96 (discV d s)
  data : Keeps w [p, g] (Data s d)
  ne : p ≠ g
/-- What a method of it leaves and answers. -/
def PQ {X : Type} (w : World) (p g : Nat) (s : DS) (d : DM) (x' : PM) (d' : DM) (v : X → Value) (Q : X → World → Prop) : Ending → World → Prop := fun e w' => ∃ z : DS × X, e = .returned (v z.2) ∧ Only [p, g] w w' ∧ Blk w' p 42 (ptyV x' g) ∧ Blk w' g 96 (discV d' z.1) ∧ TurnsL w w' [p, g] (Data s d) (fun w => Data z.1 d' w ∧ Q z.2 w)
def QT (_ : Unit) (_ : World) : Prop := True
abbrev PN (w : World) (p g : Nat) (s : DS) (d : DM) (x' : PM) (d' : DM) (v : Value) : Ending → World → Prop := PQ w p g s d x' d' (fun _ : Unit => v) QT
theorem PQ.of {X : Type} {w w1 w' : World} {p g : Nat} {s0 s : DS} {d0 d : DM} {x : PM} {L1 β : List Nat} {hp : List HB} {D1 : World → Prop} {v : X → Value} {Q : X → World → Prop} (z : X) (C : Gx w [p, g] (Data s0 d0) w1 L1 D1) (H : Mem w1 L1 β hp w') (h0 : β[0]? = some p) (h1 : β[1]? = some g) (hk0 : hp[0]? = some (.b true 42 (ptySC x 1))) (hk1 : hp[1]? = some (.b true 96 (discSC d s))) (f : ∀ w, D1 w → Data s d w ∧ Q z w) : PQ w p g s0 d0 x d v Q (.returned (v z)) w' := by
  refine ⟨(s, z), rfl, C.only H, ?_, ?_, (C.turns H).imp f⟩
  · have := H.at 0 hk0
    have e1 := nm_get h1
    rw [nm_get h0] at this
    have e : dens β (ptySC x 1) = ptyV x g := by
      show (SC.p 1 0).den β :: _ = _
      simp only [SC.den, e1]
      rfl
    rw [e] at this
    exact this
  · have := H.at 1 hk1
    rw [nm_get h1] at this
    exact this
def cEv (e : Int × Int) : List Value := [.int .i64 e.1, .int .i64 e.2]
theorem cEv_len (e : Int × Int) : (cEv e).length = 2 := rfl
theorem PAt.mem {w : World} {p g : Nat} {x : PM} {d : DM} {s : DS} (h : PAt w p g x d s) : Mem w [p, g] [p, g] [.b true 42 (ptySC x 1), .b true 96 (discSC d s)] w := Mem.two w p g h.ne h.pb h.db
theorem PAt.gx {w : World} {p g : Nat} {x : PM} {d : DM} {s : DS} (h : PAt w p g x d s) : Gx w [p, g] (Data s d) w [p, g] (Data s d) := Gx.start h.data (fun y hy => by
  simp only [List.mem_cons, List.not_mem_nil, or_false] at hy
  rcases hy with rfl | rfl
  · exact Blk.lt h.pb
  · exact Blk.lt h.db)
def openP (x : PM) : PM × Int := if x.hung then (x, 11) else ({ x with sl := IntKind.i64.wrap (x.sl + 1) }, 0)
theorem popen_any (x : PM) (d : DM) (s : DS) (p g : Nat) (w : World) (h : PAt w p g x d s) : Calls Tryz.prog 14 #[.pointer (some ⟨p, 0, none⟩)] w (PN w p g s d (openP x).1 d (.int .i64 (openP x).2)) := by
  have C := h.gx
  refine Hs.enter Tryz.func14 [p, g] [p, g] [.b true 42 (ptySC x 1), .b true 96 (discSC d s)] [.c (.p 0 0)] h.mem (by kernel_rfl) (by kernel_rfl) ?_
  unfold openP
  refine Hs.run0 300 (fun _ => by kernel_rfl) ?_
  refine Hs.condF (by kernel_rfl) ?_
  refine Hs.run0 300 (fun _ => by kernel_rfl) ?_
  refine Hs.cond x.hung (by kernel_rfl) (fun h1 => ?_) (fun h1 => ?_)
  · rw [if_pos h1]
    refine Hs.run0 300 (fun _ => by kernel_rfl) ?_
    exact Hs.ret (v := .int .i64 11) Tryz.func14 (by kernel_rfl) fun w' H => PQ.of (s := s) (d := d) (x := x) () C H rfl rfl (by kernel_rfl) (by kernel_rfl) fun w h => ⟨h, trivial⟩
  · rw [if_neg (by rw [h1]; decide)]
    refine Hs.run0 300 (fun _ => by kernel_rfl) ?_
    exact Hs.ret (v := .int .i64 0) Tryz.func14 (by kernel_rfl) fun w' H => PQ.of (s := s) (d := d) (x := { x with sl := IntKind.i64.wrap (x.sl + 1) }) () C H rfl rfl (by kernel_rfl) (by kernel_rfl) fun w h => ⟨h, trivial⟩
def closeP (x : PM) : PM × Int := if x.sl ≤ 0 then (x, 9) else ({ x with sl := IntKind.i64.wrap (x.sl - 1) }, 0)
theorem pclose_any (x : PM) (d : DM) (s : DS) (p g : Nat) (w : World) (h : PAt w p g x d s) : Calls Tryz.prog 57 #[.pointer (some ⟨p, 0, none⟩)] w (PN w p g s d (closeP x).1 d (.int .i64 (closeP x).2)) := by
  have C := h.gx
  refine Hs.enter Tryz.func57 [p, g] [p, g] [.b true 42 (ptySC x 1), .b true 96 (discSC d s)] [.c (.p 0 0)] h.mem (by kernel_rfl) (by kernel_rfl) ?_
  unfold closeP
  refine Hs.run0 300 (fun _ => by kernel_rfl) ?_
  refine Hs.condF (by kernel_rfl) ?_
  refine Hs.run0 300 (fun _ => by kernel_rfl) ?_
  refine Hs.condP (x.sl ≤ 0) (by kernel_rfl) (fun h1 => ?_) (fun h1 => ?_)
  · rw [if_pos h1]
    refine Hs.run0 300 (fun _ => by kernel_rfl) ?_
    exact Hs.ret (v := .int .i64 9) Tryz.func57 (by kernel_rfl) fun w' H => PQ.of (s := s) (d := d) (x := x) () C H rfl rfl (by kernel_rfl) (by kernel_rfl) fun w h => ⟨h, trivial⟩
  · rw [if_neg h1]
    refine Hs.run0 300 (fun _ => by kernel_rfl) ?_
    exact Hs.ret (v := .int .i64 0) Tryz.func57 (by kernel_rfl) fun w' H => PQ.of (s := s) (d := d) (x := { x with sl := IntKind.i64.wrap (x.sl - 1) }) () C H rfl rfl (by kernel_rfl) (by kernel_rfl) fun w h => ⟨h, trivial⟩
def groupP (x : PM) (q : Int) : PM × Int := if q ≤ 0 then (x, 2) else if x.ses == 0 then (x, 9) else ({ x with grp := q }, 0)
theorem pgroup_any (q : Int) (x : PM) (d : DM) (s : DS) (p g : Nat) (w : World) (h : PAt w p g x d s) : Calls Tryz.prog 59 #[.pointer (some ⟨p, 0, none⟩), .int .i64 q] w (PN w p g s d (groupP x q).1 d (.int .i64 (groupP x q).2)) := by
  have C := h.gx
  refine Hs.enter Tryz.func59 [p, g] [p, g] [.b true 42 (ptySC x 1), .b true 96 (discSC d s)] [.c (.p 0 0), .c (.v (.int .i64 q))] h.mem (by kernel_rfl) (by kernel_rfl) ?_
  unfold groupP
  refine Hs.run0 300 (fun _ => by kernel_rfl) ?_
  refine Hs.condF (by kernel_rfl) ?_
  refine Hs.run0 300 (fun _ => by kernel_rfl) ?_
  refine Hs.condP (q ≤ 0) (by kernel_rfl) (fun h1 => ?_) (fun h1 => ?_)
  · rw [if_pos h1]
    refine Hs.run0 300 (fun _ => by kernel_rfl) ?_
    exact Hs.ret (v := .int .i64 2) Tryz.func59 (by kernel_rfl) fun w' H => PQ.of (s := s) (d := d) (x := x) () C H rfl rfl (by kernel_rfl) (by kernel_rfl) fun w h => ⟨h, trivial⟩
  rw [if_neg h1]
  refine Hs.run0 300 (fun _ => by kernel_rfl) ?_
  refine Hs.cond (x.ses == 0) (by kernel_rfl) (fun h2 => ?_) (fun h2 => ?_)
  · rw [if_pos h2]
    refine Hs.run0 300 (fun _ => by kernel_rfl) ?_
    exact Hs.ret (v := .int .i64 9) Tryz.func59 (by kernel_rfl) fun w' H => PQ.of (s := s) (d := d) (x := x) () C H rfl rfl (by kernel_rfl) (by kernel_rfl) fun w h => ⟨h, trivial⟩
  · rw [if_neg (by rw [h2]; decide)]
    refine Hs.run0 300 (fun _ => by kernel_rfl) ?_
    exact Hs.ret (v := .int .i64 0) Tryz.func59 (by kernel_rfl) fun w' H => PQ.of (s := s) (d := d) (x := { x with grp := q }) () C H rfl rfl (by kernel_rfl) (by kernel_rfl) fun w h => ⟨h, trivial⟩
def bindP (x : PM) (a q : Int) : PM × Int := if a ≤ 0 ∨ q ≤ 0 then (x, 2) else if x.ses != 0 then (x, 12) else ({ x with ses := a, grp := q }, 0)
theorem pbind_any (a q : Int) (x : PM) (d : DM) (s : DS) (p g : Nat) (w : World) (h : PAt w p g x d s) : Calls Tryz.prog 35 #[.pointer (some ⟨p, 0, none⟩), .int .i64 a, .int .i64 q] w (PN w p g s d (bindP x a q).1 d (.int .i64 (bindP x a q).2)) := by
  have C := h.gx
  refine Hs.enter Tryz.func35 [p, g] [p, g] [.b true 42 (ptySC x 1), .b true 96 (discSC d s)] [.c (.p 0 0), .c (.v (.int .i64 a)), .c (.v (.int .i64 q))] h.mem (by kernel_rfl) (by kernel_rfl) ?_
  unfold bindP
  refine Hs.run0 300 (fun _ => by kernel_rfl) ?_
  refine Hs.condF (by kernel_rfl) ?_
  refine Hs.run0 300 (fun _ => by kernel_rfl) ?_
  refine Hs.bool 13 (decide (a ≤ 0)) (by kernel_rfl) (fun h1 => ?_) (fun h1 => ?_)
  · replace h1 : a ≤ 0 := by simpa using h1
    rw [if_pos (.inl h1)]
    refine Hs.rung0 [2] 300 (fun _ => by kernel_rfl) ?_
    refine Hs.condT (by kernel_rfl) ?_
    refine Hs.run0 300 (fun _ => by kernel_rfl) ?_
    exact Hs.ret (v := .int .i64 2) Tryz.func35 (by kernel_rfl) fun w' H => PQ.of (s := s) (d := d) (x := x) () C H rfl rfl (by kernel_rfl) (by kernel_rfl) fun w h => ⟨h, trivial⟩
  replace h1 : ¬ a ≤ 0 := by simpa using h1
  refine Hs.rung0 [2] 300 (fun _ => by kernel_rfl) ?_
  refine Hs.condP (q ≤ 0) (by kernel_rfl) (fun h2 => ?_) (fun h2 => ?_)
  · rw [if_pos (.inr h2)]
    refine Hs.run0 300 (fun _ => by kernel_rfl) ?_
    exact Hs.ret (v := .int .i64 2) Tryz.func35 (by kernel_rfl) fun w' H => PQ.of (s := s) (d := d) (x := x) () C H rfl rfl (by kernel_rfl) (by kernel_rfl) fun w h => ⟨h, trivial⟩
  rw [if_neg fun h => h.elim h1 h2]
  refine Hs.run0 300 (fun _ => by kernel_rfl) ?_
  refine Hs.cond (x.ses != 0) (by kernel_rfl) (fun h3 => ?_) (fun h3 => ?_)
  · rw [if_pos h3]
    refine Hs.run0 300 (fun _ => by kernel_rfl) ?_
    exact Hs.ret (v := .int .i64 12) Tryz.func35 (by kernel_rfl) fun w' H => PQ.of (s := s) (d := d) (x := x) () C H rfl rfl (by kernel_rfl) (by kernel_rfl) fun w h => ⟨h, trivial⟩
  · rw [if_neg (by rw [h3]; decide)]
    refine Hs.run0 300 (fun _ => by kernel_rfl) ?_
    exact Hs.ret (v := .int .i64 0) Tryz.func35 (by kernel_rfl) fun w' H => PQ.of (s := s) (d := d) (x := { x with ses := a, grp := q }) () C H rfl rfl (by kernel_rfl) (by kernel_rfl) fun w h => ⟨h, trivial⟩
theorem cEv_one (e : Int × Int) : ∀ u ∈ cEv e, u.oneCell' = true := by
  intro u hu
  simp only [cEv, List.mem_cons, List.not_mem_nil, or_false] at hu
  rcases hu with rfl | rfl <;> rfl
theorem elemEv : ElemT Tryz.prog 43 46 2 (Tryz.prog.bytesOf 46) := elemT_of (z := .agg #[.int .i64 0, .int .i64 0]) (by kernel_rfl) (by kernel_rfl) (by decide) (by decide)
theorem by_ev : Tryz.prog.bytesOf 46 = 16 := by kernel_rfl
theorem elemI17 : ElemT Tryz.prog 56 3 1 (Tryz.prog.bytesOf 3) := elemT_of (z := .int .i64 0) (by kernel_rfl) (by kernel_rfl) (by decide) (by decide)
theorem i64_cell17 {w : World} {b off i : Nat} {l : List Int} {x : Int} (hr : RdX ci64 w (some ⟨b, off, none⟩) l) (hx : l[i]? = some x) : w.cell? ⟨b, off + i * 1, none⟩ = some (.int .i64 x) := rdX_cell ci64_len hr hx (j := 0) (v := .int .i64 x) rfl
def evL (grp : Int) (sigs : List Int) : List (Int × Int) := if grp == 0 then [] else sigs.map fun s => (grp, s)
abbrev SX := Option Addr × Nat
def RdE (w : World) (z : SX) (l : List (Int × Int)) : Prop := RdX cEv w z.1 l ∧ l.length ≤ z.2 ∧ z.2 ≤ maxLen
set_option maxHeartbeats 2000000 in
theorem pevents_any (x : PM) (p g : Nat) (A : Option Addr) (c : Nat) (sg : List Int) (w : World) (h : Blk w p 42 (ptyV x g)) (hr : RdX ci64 w A sg) (hl : sg.length ≤ 100000) : Calls Tryz.prog 37 #[.pointer (some ⟨p, 0, none⟩), .slice A sg.length c] w (NewX w (fun z : SX => .slice z.1 (evL x.grp sg).length z.2) (fun z w => RdE w z (evL x.grp sg))) := by
  have hm : sg.length ≤ maxLen := by unfold maxLen; omega
  refine Hs.enter Tryz.func37 [] [p] [.b false 42 (ptyRC x g)] [.c (.p 0 0), .c (.v (.slice A sg.length c))] (Mem.rdB1 w p h) (by kernel_rfl) (by kernel_rfl) ?_
  refine Hs.run0 300 (fun _ => by kernel_rfl) ?_
  refine Hs.cond (x.grp == 0) (by kernel_rfl) (fun h1 => ?_) (fun h1 => ?_)
  · have e : evL x.grp sg = [] := by unfold evL; rw [if_pos h1]
    rw [e]
    refine Hs.run0 300 (fun _ => by kernel_rfl) ?_
    exact Hs.ret (v := .slice none 0 0) Tryz.func37 (by kernel_rfl) fun w' H => ⟨(none, 0), rfl, H.only, fun L hL w2 O2 => ⟨rdX_nil, Nat.le_refl _, by unfold maxLen; omega⟩⟩
  have e : evL x.grp sg = sg.map fun s => (x.grp, s) := by unfold evL; rw [if_neg (by rw [h1]; decide)]
  have el : (evL x.grp sg).length = sg.length := by rw [e, List.length_map]
  rw [el, e]
  have J : ∀ (d i : Nat), sg.length - i = d → i ≤ sg.length → ∀ (A4 : Option Addr) (c4 : Nat) (u : Nat → Value), Hs Tryz.prog 37 (NewX w (fun z : SX => .slice z.1 sg.length z.2) (fun z w => RdE w z (sg.map fun s => (x.grp, s)))) (Tryz.f37).ntmps w [] [p, 0] ⟨.no, loopAt Tryz.f37 0, pins [(0, .c (.p 0 0)), (5, .c (.v (.slice A4 i c4))), (13, .c (.v (.slice A sg.length c))), (14, .c (.v (.int .i64 sg.length))), (15, .c (.v (.int .i64 i)))] (.vals u), [.b false 42 (ptyRC x g), .s A4 c4 i 46 2 (((sg.take i).map fun s => (x.grp, s)).flatMap cEv)]⟩ := by
    intro d
    induction d with
    | zero =>
      intro i hd hi A4 c4 u
      obtain rfl : i = sg.length := by omega
      rw [List.take_length]
      refine Hs.run0 300 (fun _ => by kernel_rfl) ?_
      refine Hs.condP ((sg.length : Int) < (sg.length : Int)) (by kernel_rfl) (fun h => by omega) (fun h => ?_)
      refine Hs.run0 300 (fun _ => by kernel_rfl) ?_
      exact Hs.ret (v := .slice A4 sg.length c4) Tryz.func37 (by kernel_rfl) fun w' H => ⟨(A4, c4), rfl, H.only, fun L hL => by
        have h2 := H.fresh (cf := cEv) (E := 46) (size := 2) (A := A4) (cap := c4) (l := sg.map fun s => (x.grp, s)) 1 (by rw [List.length_map]) (by kernel_rfl)
        obtain ⟨A1, cap1, e1, hc1, hc2, hrr, hA⟩ := h2.form
        injection e1 with e1 e2 e3
        subst e1; subst e3
        exact (rdX_keeps hrr fun a ha hx => by
          have := (hA a ha).1
          have := hL _ hx
          omega).imp fun w h => ⟨h, hc1, hc2⟩⟩
    | succ d ih =>
      intro i hd hi A4 c4 u
      have hil : i < sg.length := by omega
      obtain ⟨y, hy⟩ : ∃ y, sg[i]? = some y := ⟨_, List.getElem?_eq_getElem hil⟩
      have htk : (sg.take (i + 1)).map (fun s => (x.grp, s)) = ((sg.take i).map fun s => (x.grp, s)) ++ [(x.grp, y)] := by rw [List.take_add_one, hy, List.map_append]; rfl
      obtain ⟨ab, aoff, hA, _, _⟩ := hr (by omega)
      have hih := fun A4 c4 u => ih (i + 1) (by omega) (by omega) A4 c4 u
      rw [htk] at hih
      rw [hA] at hih hr ⊢
      refine Hs.run0 300 (fun _ => by kernel_rfl) ?_
      refine Hs.condP ((i : Int) < (sg.length : Int)) (by kernel_rfl) (fun _ => ?_) (fun h => by omega)
      refine Hs.run0 300 (fun _ => by kernel_rfl) ?_
      refine Hs.idx (b := ab) (off := aoff) (len := sg.length) (c := c) (i := i) elemI17 hil (by kernel_rfl) ?_
      refine Hs.run0 300 (fun _ => by kernel_rfl) ?_
      refine Hs.ldc (E' := 3) (b := ab) (off := aoff + i * 1) (.int .i64 y) (by kernel_rfl) (fun w' H => i64_cell17 (hr.only H.only) hy) (by kernel_rfl) ?_
      refine Hs.run1 300 (fun _ => by kernel_rfl) fun b5 => ?_
      refine Hs.app (cf := cEv) (c := 1) (ty := 43) 1 elemEv ((sg.take i).map fun s => (x.grp, s)) [(x.grp, y)] i 1 (by rw [List.length_map, List.length_take]; omega) rfl cEv_one cEv_len (A := A4) (B := some ⟨b5, 0, none⟩) (cap := c4) (by kernel_rfl) (by kernel_rfl) (by kernel_rfl) (fun w' H => H.rdB (cf := cEv) (wr := true) (T := 46) (cs := [.v (.int .i64 x.grp), .v (.int .i64 y)]) (gs := [(x.grp, y)]) 2 (by kernel_rfl) rfl) (by unfold maxLen; omega) (by rw [by_ev]; omega) fun A6 c6 h6 => ?_
      refine Hs.run0 300 (fun _ => by kernel_rfl) ?_
      refine Hs.slot 15 (.c (.v (.int .i64 (i + 1 : Nat)))) rfl ((by kernel_rfl : _ = Value.int .i64 (IntKind.i64.wrap ((i : Int) + 1))).trans (wrap_nextJ hm)) ?_
      refine Hs.loop (by kernel_rfl) ?_
      exact Hs.goto (loopAt Tryz.f37 0) [0, 1] [.b false 42 (ptyRC x g), .s A6 c6 (i + 1) 46 2 ((((sg.take i).map fun s => (x.grp, s)) ++ [(x.grp, y)]).flatMap cEv)] [(0, .c (.p 0 0)), (5, .c (.v (.slice A6 (i + 1) c6))), (13, .c (.v (.slice (some ⟨ab, aoff, none⟩) sg.length c))), (14, .c (.v (.int .i64 sg.length))), (15, .c (.v (.int .i64 (i + 1 : Nat))))] (by kernel_rfl) (by decide) (by kernel_rfl) (by kernel_rfl) (fun _ => (by kernel_rfl)) (fun u => hih A6 c6 u)
  refine Hs.run0 300 (fun _ => by kernel_rfl) ?_
  refine Hs.nilS 46 2 (by kernel_rfl) ?_ (by kernel_rfl)
  refine Hs.loop (by kernel_rfl) ?_
  exact Hs.goto (loopAt Tryz.f37 0) [0, 1] [.b false 42 (ptyRC x g), .s none 0 0 46 2 (([] : List (Int × Int)).flatMap cEv)] [(0, .c (.p 0 0)), (5, .c (.v (.slice none 0 0))), (13, .c (.v (.slice A sg.length c))), (14, .c (.v (.int .i64 sg.length))), (15, .c (.v (.int .i64 (0 : Nat))))] (by kernel_rfl) (by decide) (by kernel_rfl) (by kernel_rfl) (fun _ => (by kernel_rfl)) (fun u => J sg.length 0 (by omega) (by omega) none 0 u)
end Go.Proofs.YtnfcdbjckdhieaaGreat
