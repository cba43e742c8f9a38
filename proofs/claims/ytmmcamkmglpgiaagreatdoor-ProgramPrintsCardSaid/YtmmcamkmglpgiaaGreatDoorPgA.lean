/- Layer 19: programs handed from one package to another one; for all programs; the lengths are small. -/
import Derived.Test.YtmmcamkmglpgiaaGreatDoorEngAC
import Derived.Test.YtmmcamkmglpgiaaGreatDoorEngK
namespace Go.Proofs.YtmmcamkmglpgiaaGreatDoor
set_option linter.all false
set_option maxRecDepth 100000
open Go.RowKit
/-- An operation, a program as it lies in memory. -/
structure OP9 where
  k : Int
  a : Int
  b : Int
  t : ByteArray
def cOP (x : OP9) : List Value := [.int .i64 x.k, .int .i64 x.a, .int .i64 x.b, .string x.t]
def OP9.sc (x : OP9) : List SC := [.v (.int .i64 x.k), .v (.int .i64 x.a), .v (.int .i64 x.b), .v (.string x.t)]
structure PG where
  n : ByteArray
  A : Option Addr
  c : Nat
  ops : List OP9
def cPG (x : PG) : List Value := [.string x.n, .slice x.A x.ops.length x.c]
def PG.sc (x : PG) : List SC := [.v (.string x.n), .v (.slice x.A x.ops.length x.c)]
def PG.m (x : PG) : ByteArray × List OP9 := (x.n, x.ops)
theorem cOP_len (x : OP9) : (cOP x).length = 4 := rfl
theorem cPG_len (x : PG) : (cPG x).length = 2 := rfl
theorem cOP_one (x : OP9) : ∀ u ∈ cOP x, u.oneCell' = true := by
  intro u hu
  simp only [cOP, List.mem_cons, List.not_mem_nil, or_false] at hu
  rcases hu with rfl | rfl | rfl | rfl <;> rfl
theorem cPG_one (x : PG) : ∀ u ∈ cPG x, u.oneCell' = true := by
  intro u hu
  simp only [cPG, List.mem_cons, List.not_mem_nil, or_false] at hu
  rcases hu with rfl | rfl <;> rfl
def PgOk (w : World) (x : PG) : Prop := RdX cOP w x.A x.ops ∧ x.ops.length ≤ x.c ∧ x.c ≤ maxLen
theorem PgOk.only {w w' : World} {x : PG} (h : PgOk w x) (O : Only [] w w') : PgOk w' x := ⟨h.1.only O, h.2⟩
/-- Programs in memory. -/
structure Pgs (w : World) (A : Option Addr) (c : Nat) (l : List PG) : Prop where
  rd : RdX cPG w A l
  le : l.length ≤ c
  max : c ≤ maxLen
  all : ∀ x ∈ l, PgOk w x
theorem Pgs.only {w w' : World} {A : Option Addr} {c : Nat} {l : List PG} (h : Pgs w A c l) (O : Only [] w w') : Pgs w' A c l := ⟨h.rd.only O, h.le, h.max, fun x hx => (h.all x hx).only O⟩
structure PgFew (l : List PG) : Prop where
  len : l.length ≤ 3518437208875
  ops : ∀ x ∈ l, x.ops.length ≤ 3518437208875
abbrev PX := Option Addr × Nat × List PG
def PgsP (ps : List PG) (z : PX) (w : World) : Prop := Pgs w z.1 z.2.1 z.2.2 ∧ z.2.2.map PG.m = ps.map PG.m
theorem PgsP.len {ps : List PG} {z : PX} {w : World} (h : PgsP ps z w) : z.2.2.length = ps.length := by simpa using congrArg List.length h.2
/-- Programs in new memory. -/
abbrev PgPost (ps : List PG) (w : World) : Ending → World → Prop := NewX w (fun z : PX => .slice z.1 ps.length z.2.1) (PgsP ps)
theorem Nx.pgs {ps : List PG} {w w1 w' : World} {L1 β : List Nat} {hp : List HB} {D1 : World → Prop} {A : Option Addr} {c : Nat} {outs : List PG} (C : Nx w w1 L1 D1) (H : Mem w1 L1 β hp w') (q : ∀ w, D1 w → PgsP ps (A, c, outs) w) : PgPost ps w (.returned (.slice A ps.length c)) w' :=
  ⟨(A, c, outs), rfl, C.only H, fun L hL => (C.fin H L fun x hx => .inl (hL x hx)).imp fun w h => q w h⟩
theorem elemLp : ElemT Tryz.prog 22 53 2 (Tryz.prog.bytesOf 53) := elemT_of (z := .agg #[.string ⟨#[]⟩, .slice none 0 0]) (by kernel_rfl) (by kernel_rfl) (by decide) (by decide)
theorem elemLp_by : Tryz.prog.bytesOf 53 = 40 := by kernel_rfl
theorem elemRo : ElemT Tryz.prog 49 52 4 (Tryz.prog.bytesOf 52) := elemT_of (z := .agg #[.int .i64 0, .int .i64 0, .int .i64 0, .string ⟨#[]⟩]) (by kernel_rfl) (by kernel_rfl) (by decide) (by decide)
theorem elemRo_by : Tryz.prog.bytesOf 52 = 40 := by kernel_rfl
theorem elemPo : ElemT Tryz.prog 31 36 4 (Tryz.prog.bytesOf 36) := elemT_of (z := .agg #[.int .i64 0, .int .i64 0, .int .i64 0, .string ⟨#[]⟩]) (by kernel_rfl) (by kernel_rfl) (by decide) (by decide)
theorem elemPo_by : Tryz.prog.bytesOf 36 = 40 := by kernel_rfl
theorem elemRp : ElemT Tryz.prog 25 51 2 (Tryz.prog.bytesOf 51) := elemT_of (z := .agg #[.string ⟨#[]⟩, .slice none 0 0]) (by kernel_rfl) (by kernel_rfl) (by decide) (by decide)
theorem elemRp_by : Tryz.prog.bytesOf 51 = 40 := by kernel_rfl
theorem elemPr : ElemT Tryz.prog 29 33 2 (Tryz.prog.bytesOf 33) := elemT_of (z := .agg #[.string ⟨#[]⟩, .slice none 0 0]) (by kernel_rfl) (by kernel_rfl) (by decide) (by decide)
theorem elemPr_by : Tryz.prog.bytesOf 33 = 40 := by kernel_rfl
set_option maxHeartbeats 4000000 in
theorem to19_any (ps : List PG) (A : Option Addr) (c : Nat) (w : World) (h : Pgs w A c ps) (hf : PgFew ps) : Calls Tryz.prog 10 #[.slice A ps.length c] w (PgPost ps w) := by
  have hlen : ps.length ≤ maxLen := Nat.le_trans h.le h.max
  have hps := hf.len
  have J : ∀ (d i : Nat), ps.length - i = d → i ≤ ps.length → ∀ (outs : List PG) (A4 : Option Addr) (c4 : Nat) (w1 : World) (L1 : List Nat), Nx w w1 L1 (fun w => ∀ z ∈ outs, PgOk w z) → outs.map PG.m = (ps.take i).map PG.m → outs.length = i → ∀ (u : Nat → Value), Hs Tryz.prog 10 (PgPost ps w) (Tryz.f10).ntmps w1 L1 [0] ⟨.no, loopAt Tryz.f10 0, pins [(3, .c (.v (.slice A4 i c4))), (9, .c (.v (.slice A ps.length c))), (10, .c (.v (.int .i64 ps.length))), (11, .c (.v (.int .i64 i)))] (.vals u), [.s A4 c4 i 33 2 (outs.flatMap cPG)]⟩ := by
    intro d
    induction d with
    | zero =>
      intro i hd hi outs A4 c4 w1 L1 N ho hol u
      obtain rfl : i = ps.length := by omega
      rw [List.take_length] at ho
      refine Hs.run0 300 (fun _ => by kernel_rfl) ?_
      refine Hs.condP ((ps.length : Int) < (ps.length : Int)) (by kernel_rfl) (fun h => by omega) (fun _ => ?_)
      refine Hs.runR0 13 [] 300 (fun _ => by kernel_rfl) ?_
      refine Hs.freezeN 0 (cf := cPG) (size := 2) (A := A4) (cap := c4) (nl := ps.length) (E := 33) N hol (by kernel_rfl) (by kernel_rfl) fun w3 L3 N3 => ?_
      refine Hs.run0 300 (fun _ => by kernel_rfl) ?_
      exact Hs.ret (v := .slice A4 ps.length c4) Tryz.func10 (by kernel_rfl) fun w' H => N3.pgs (outs := outs) H fun w h => ⟨⟨h.1.1, h.1.2.1, h.1.2.2, h.2⟩, ho⟩
    | succ d ih =>
      intro i hd hi outs A4 c4 w1 L1 N ho hol u
      have hil : i < ps.length := by omega
      obtain ⟨x, hx⟩ : ∃ x, ps[i]? = some x := ⟨_, List.getElem?_eq_getElem hil⟩
      have hxm : x ∈ ps := List.mem_of_getElem? hx
      have hxo := h.all x hxm
      have hxl := hf.ops x hxm
      obtain ⟨ab, aoff, hA, _, _⟩ := h.rd (by omega)
      have hih := fun outs A4 c4 w1 L1 N e1 e2 u => ih (i + 1) (by omega) (by omega) outs A4 c4 w1 L1 N e1 e2 u
      clear ih
      have hrd := h.rd
      rw [hA] at hih hrd ⊢
      have K : ∀ (e j : Nat), x.ops.length - j = e → j ≤ x.ops.length → ∀ (g0 g : Nat) (A5 : Option Addr) (c5 : Nat) (u : Nat → Value), Hs Tryz.prog 10 (PgPost ps w) (Tryz.f10).ntmps w1 L1 [0, g, 0] ⟨.no, loopAt Tryz.f10 1, pins [(3, .c (.v (.slice A4 i c4))), (6, .c (.p 1 0)), (9, .c (.v (.slice (some ⟨ab, aoff, none⟩) ps.length c))), (10, .c (.v (.int .i64 ps.length))), (11, .c (.v (.int .i64 i))), (19, .c (.v (.slice x.A x.ops.length x.c))), (20, .c (.v (.int .i64 x.ops.length))), (21, .c (.v (.int .i64 j)))] (.vals u), [.s A4 c4 i 33 2 (outs.flatMap cPG), .b true 33 [.v (.string x.n), .v (.slice A5 j c5)], .s A5 c5 j 36 4 ((x.ops.take j).flatMap cOP)]⟩ := by
        intro e
        induction e with
        | zero =>
          intro j he hj g0 g A5 c5 u
          obtain rfl : j = x.ops.length := by omega
          rw [List.take_length]
          refine Hs.run0 300 (fun _ => by kernel_rfl) ?_
          refine Hs.condP ((x.ops.length : Int) < (x.ops.length : Int)) (by kernel_rfl) (fun h => by omega) (fun _ => ?_)
          refine Hs.run1 300 (fun _ => by kernel_rfl) fun b3 => ?_
          refine Hs.app (cf := cPG) (c := 1) (ty := 29) 0 elemPr outs [(⟨x.n, A5, c5, x.ops⟩ : PG)] i 1 hol rfl cPG_one cPG_len (A := A4) (B := some ⟨b3, 0, none⟩) (cap := c4) (by kernel_rfl) (by kernel_rfl) (by kernel_rfl) (fun w' H => H.rdB (cf := cPG) (wr := true) (T := 33) (cs := PG.sc ⟨x.n, A5, c5, x.ops⟩) (gs := [(⟨x.n, A5, c5, x.ops⟩ : PG)]) 3 (by kernel_rfl) rfl) (by unfold maxLen; omega) (by rw [elemPr_by]; omega) fun A6 c6 h6 => ?_
          refine Hs.run0 300 (fun _ => by kernel_rfl) ?_
          refine Hs.freezeN 2 (cf := cOP) (size := 4) (A := A5) (cap := c5) (nl := x.ops.length) (E := 36) N rfl (by kernel_rfl) (by kernel_rfl) fun w3 L3 N3 => ?_
          refine Hs.slot 11 (.c (.v (.int .i64 (i + 1 : Nat)))) rfl ((by kernel_rfl : _ = Value.int .i64 (IntKind.i64.wrap ((i : Int) + 1))).trans (wrap_nextJ hlen)) ?_
          refine Hs.loop (by kernel_rfl) ?_
          exact Hs.goto (loopAt Tryz.f10 0) [0] [.s A6 c6 (i + 1) 33 2 ((outs ++ [(⟨x.n, A5, c5, x.ops⟩ : PG)]).flatMap cPG)] [(3, .c (.v (.slice A6 (i + 1) c6))), (9, .c (.v (.slice (some ⟨ab, aoff, none⟩) ps.length c))), (10, .c (.v (.int .i64 ps.length))), (11, .c (.v (.int .i64 (i + 1 : Nat))))] (by kernel_rfl) (by decide) (by kernel_rfl) (by kernel_rfl) (fun _ => (by kernel_rfl)) (fun u => hih (outs ++ [(⟨x.n, A5, c5, x.ops⟩ : PG)]) A6 c6 w3 L3 (N3.imp fun w h => fun y hy => by
            rcases List.mem_append.1 hy with h1 | h1
            · exact h.2 y h1
            · rw [List.mem_singleton.1 h1]; exact h.1) (by rw [List.map_append, ho, List.take_add_one, hx, List.map_append]; rfl) (by rw [List.length_append, hol]; rfl) u)
        | succ e ihk =>
          intro j he hj g0 g A5 c5 u
          have hjl : j < x.ops.length := by omega
          obtain ⟨y, hy⟩ : ∃ y, x.ops[j]? = some y := ⟨_, List.getElem?_eq_getElem hjl⟩
          have htj : (x.ops.take j).length = j := by rw [List.length_take]; omega
          obtain ⟨ob, ooff, hO, _, _⟩ := hxo.1 (by omega)
          have hihk := fun g0 g A5 c5 u => ihk (j + 1) (by omega) (by omega) g0 g A5 c5 u
          clear ihk
          have hor := hxo.1
          rw [hO] at hihk hor ⊢
          refine Hs.run0 300 (fun _ => by kernel_rfl) ?_
          refine Hs.condP ((j : Int) < (x.ops.length : Int)) (by kernel_rfl) (fun _ => ?_) (fun h => by omega)
          refine Hs.run0 300 (fun _ => by kernel_rfl) ?_
          refine Hs.idx (b := ob) (off := ooff) (len := x.ops.length) (c := x.c) (i := j) elemRo hjl (by kernel_rfl) ?_
          refine Hs.ldx (cf := cOP) (size := 4) (E := 52) (b := ob) (off := ooff) (i := j) (l := x.ops) (x := y) cOP_len (.g y.sc) (by kernel_rfl) (fun w' H => hor.only (N.only H)) hy (by kernel_rfl) (by kernel_rfl) rfl (by kernel_rfl) ?_
          refine Hs.run2 300 (fun _ => by kernel_rfl) fun b4 b5 => ?_
          refine Hs.app (cf := cOP) (c := 1) (ty := 31) 2 elemPo (x.ops.take j) [y] j 1 htj rfl cOP_one cOP_len (A := A5) (B := some ⟨b5, 0, none⟩) (cap := c5) (by kernel_rfl) (by kernel_rfl) (by kernel_rfl) (fun w' H => H.rdB (cf := cOP) (wr := true) (T := 36) (cs := y.sc) (gs := [y]) 4 (by kernel_rfl) rfl) (by unfold maxLen; omega) (by rw [elemPo_by]; omega) fun A6 c6 h6 => ?_
          refine Hs.run0 300 (fun _ => by kernel_rfl) ?_
          refine Hs.slot 21 (.c (.v (.int .i64 (j + 1 : Nat)))) rfl ((by kernel_rfl : _ = Value.int .i64 (IntKind.i64.wrap ((j : Int) + 1))).trans (wrap_nextJ (Nat.le_trans hxo.2.1 hxo.2.2))) ?_
          refine Hs.loop (by kernel_rfl) ?_
          have e1 : x.ops.take j ++ [y] = x.ops.take (j + 1) := by rw [List.take_add_one, hy]; rfl
          rw [e1]
          exact Hs.goto (loopAt Tryz.f10 1) [0, 1, 2] [.s A4 c4 i 33 2 (outs.flatMap cPG), .b true 33 [.v (.string x.n), .v (.slice A6 (j + 1) c6)], .s A6 c6 (j + 1) 36 4 ((x.ops.take (j + 1)).flatMap cOP)] [(3, .c (.v (.slice A4 i c4))), (6, .c (.p 1 0)), (9, .c (.v (.slice (some ⟨ab, aoff, none⟩) ps.length c))), (10, .c (.v (.int .i64 ps.length))), (11, .c (.v (.int .i64 i))), (19, .c (.v (.slice (some ⟨ob, ooff, none⟩) x.ops.length x.c))), (20, .c (.v (.int .i64 x.ops.length))), (21, .c (.v (.int .i64 (j + 1 : Nat))))] (by kernel_rfl) (by decide) (by kernel_rfl) (by kernel_rfl) (fun _ => (by kernel_rfl)) (fun u => hihk g0 g A6 c6 u)
      refine Hs.run0 300 (fun _ => by kernel_rfl) ?_
      refine Hs.condP ((i : Int) < (ps.length : Int)) (by kernel_rfl) (fun _ => ?_) (fun h => by omega)
      refine Hs.run0 300 (fun _ => by kernel_rfl) ?_
      refine Hs.idx (b := ab) (off := aoff) (len := ps.length) (c := c) (i := i) elemLp hil (by kernel_rfl) ?_
      refine Hs.ldx (cf := cPG) (size := 2) (E := 53) (b := ab) (off := aoff) (i := i) (l := ps) (x := x) cPG_len (.g x.sc) (by kernel_rfl) (fun w' H => hrd.only (N.only H)) hx (by kernel_rfl) (by kernel_rfl) rfl (by kernel_rfl) ?_
      refine Hs.run2 300 (fun _ => by kernel_rfl) fun b1 b2 => ?_
      refine Hs.nilS 36 4 (by kernel_rfl) ?_ (by kernel_rfl)
      refine Hs.loop (by kernel_rfl) ?_
      exact Hs.goto (loopAt Tryz.f10 1) [0, 2, 3] [.s A4 c4 i 33 2 (outs.flatMap cPG), .b true 33 [.v (.string x.n), .v (.slice none 0 0)], .s none 0 0 36 4 ((x.ops.take 0).flatMap cOP)] [(3, .c (.v (.slice A4 i c4))), (6, .c (.p 1 0)), (9, .c (.v (.slice (some ⟨ab, aoff, none⟩) ps.length c))), (10, .c (.v (.int .i64 ps.length))), (11, .c (.v (.int .i64 i))), (19, .c (.v (.slice x.A x.ops.length x.c))), (20, .c (.v (.int .i64 x.ops.length))), (21, .c (.v (.int .i64 (0 : Nat))))] (by kernel_rfl) (by decide) (by kernel_rfl) (by kernel_rfl) (fun _ => (by kernel_rfl)) (fun u => K x.ops.length 0 (by omega) (by omega) 0 b2 none 0 u)
  refine Hs.enter Tryz.func10 [] [] [] [.c (.v (.slice A ps.length c))] (Mem.start0 w) (by kernel_rfl) (by kernel_rfl) ?_
  refine Hs.run0 300 (fun _ => by kernel_rfl) ?_
  refine Hs.nilS 33 2 (by kernel_rfl) ?_ (by kernel_rfl)
  refine Hs.loop (by kernel_rfl) ?_
  exact Hs.goto (loopAt Tryz.f10 0) [0] [.s none 0 0 33 2 (([] : List PG).flatMap cPG)] [(3, .c (.v (.slice none 0 0))), (9, .c (.v (.slice A ps.length c))), (10, .c (.v (.int .i64 ps.length))), (11, .c (.v (.int .i64 (0 : Nat))))] (by kernel_rfl) (by decide) (by kernel_rfl) (by kernel_rfl) (fun _ => (by kernel_rfl)) (fun u => J ps.length 0 (by omega) (by omega) [] none 0 w [] ((Nx.start w).imp fun w h => fun y hy => by cases hy) rfl rfl u)
set_option maxHeartbeats 4000000 in
theorem ref19_any (ps : List PG) (A : Option Addr) (c : Nat) (w : World) (h : Pgs w A c ps) (hf : PgFew ps) : Calls Tryz.prog 8 #[.slice A ps.length c] w (PgPost ps w) := by
  have hlen : ps.length ≤ maxLen := Nat.le_trans h.le h.max
  have hps := hf.len
  have J : ∀ (d i : Nat), ps.length - i = d → i ≤ ps.length → ∀ (outs : List PG) (A4 : Option Addr) (c4 : Nat) (w1 : World) (L1 : List Nat), Nx w w1 L1 (fun w => ∀ z ∈ outs, PgOk w z) → outs.map PG.m = (ps.take i).map PG.m → outs.length = i → ∀ (u : Nat → Value), Hs Tryz.prog 8 (PgPost ps w) (Tryz.f8).ntmps w1 L1 [0] ⟨.no, loopAt Tryz.f8 0, pins [(3, .c (.v (.slice A4 i c4))), (6, .c (.v (.slice A ps.length c))), (7, .c (.v (.int .i64 ps.length))), (8, .c (.v (.int .i64 i)))] (.vals u), [.s A4 c4 i 51 2 (outs.flatMap cPG)]⟩ := by
    intro d
    induction d with
    | zero =>
      intro i hd hi outs A4 c4 w1 L1 N ho hol u
      obtain rfl : i = ps.length := by omega
      rw [List.take_length] at ho
      refine Hs.run0 300 (fun _ => by kernel_rfl) ?_
      refine Hs.condP ((ps.length : Int) < (ps.length : Int)) (by kernel_rfl) (fun h => by omega) (fun _ => ?_)
      refine Hs.runR0 7 [] 300 (fun _ => by kernel_rfl) ?_
      refine Hs.freezeN 0 (cf := cPG) (size := 2) (A := A4) (cap := c4) (nl := ps.length) (E := 51) N hol (by kernel_rfl) (by kernel_rfl) fun w3 L3 N3 => ?_
      refine Hs.run0 300 (fun _ => by kernel_rfl) ?_
      exact Hs.ret (v := .slice A4 ps.length c4) Tryz.func8 (by kernel_rfl) fun w' H => N3.pgs (outs := outs) H fun w h => ⟨⟨h.1.1, h.1.2.1, h.1.2.2, h.2⟩, ho⟩
    | succ d ih =>
      intro i hd hi outs A4 c4 w1 L1 N ho hol u
      have hil : i < ps.length := by omega
      obtain ⟨x, hx⟩ : ∃ x, ps[i]? = some x := ⟨_, List.getElem?_eq_getElem hil⟩
      have hxm : x ∈ ps := List.mem_of_getElem? hx
      have hxo := h.all x hxm
      have hxl := hf.ops x hxm
      obtain ⟨ab, aoff, hA, _, _⟩ := h.rd (by omega)
      have hih := fun outs A4 c4 w1 L1 N e1 e2 u => ih (i + 1) (by omega) (by omega) outs A4 c4 w1 L1 N e1 e2 u
      clear ih
      have hrd := h.rd
      rw [hA] at hih hrd ⊢
      refine Hs.run0 300 (fun _ => by kernel_rfl) ?_
      refine Hs.condP ((i : Int) < (ps.length : Int)) (by kernel_rfl) (fun _ => ?_) (fun h => by omega)
      refine Hs.run0 300 (fun _ => by kernel_rfl) ?_
      refine Hs.idx (b := ab) (off := aoff) (len := ps.length) (c := c) (i := i) elemLp hil (by kernel_rfl) ?_
      refine Hs.ldx (cf := cPG) (size := 2) (E := 53) (b := ab) (off := aoff) (i := i) (l := ps) (x := x) cPG_len (.g x.sc) (by kernel_rfl) (fun w' H => hrd.only (N.only H)) hx (by kernel_rfl) (by kernel_rfl) rfl (by kernel_rfl) ?_
      refine Hs.run1 300 (fun _ => by kernel_rfl) fun b1 => ?_
      refine Hs.any [1] (by kernel_rfl) ?_
      refine Hs.run1 300 (fun _ => by kernel_rfl) fun b2 => ?_
      refine Hs.litX (cf := cOP) (ty := 49) (c := x.c) 2 elemRo x.ops x.ops.length rfl cOP_one cOP_len (by kernel_rfl) (by kernel_rfl) (by kernel_rfl) (fun w' H => hxo.1.only (N.only H)) (Nat.le_trans hxo.2.1 hxo.2.2) (by rw [elemRo_by]; omega) fun A5 c5 h5 h5' => ?_
      refine Hs.run1 300 (fun _ => by kernel_rfl) fun b3 => ?_
      refine Hs.app (cf := cPG) (c := 1) (ty := 25) 0 elemRp outs [(⟨x.n, A5, c5, x.ops⟩ : PG)] i 1 hol rfl cPG_one cPG_len (A := A4) (B := some ⟨b3, 0, none⟩) (cap := c4) (by kernel_rfl) (by kernel_rfl) (by kernel_rfl) (fun w' H => H.rdB (cf := cPG) (wr := true) (T := 51) (cs := PG.sc ⟨x.n, A5, c5, x.ops⟩) (gs := [(⟨x.n, A5, c5, x.ops⟩ : PG)]) 3 (by kernel_rfl) rfl) (by unfold maxLen; omega) (by rw [elemRp_by]; omega) fun A6 c6 h6 => ?_
      refine Hs.run0 300 (fun _ => by kernel_rfl) ?_
      refine Hs.freezeN 2 (cf := cOP) (size := 4) (A := A5) (cap := c5) (nl := x.ops.length) (E := 52) N rfl (by kernel_rfl) (by kernel_rfl) fun w3 L3 N3 => ?_
      refine Hs.slot 8 (.c (.v (.int .i64 (i + 1 : Nat)))) rfl ((by kernel_rfl : _ = Value.int .i64 (IntKind.i64.wrap ((i : Int) + 1))).trans (wrap_nextJ hlen)) ?_
      refine Hs.loop (by kernel_rfl) ?_
      exact Hs.goto (loopAt Tryz.f8 0) [0] [.s A6 c6 (i + 1) 51 2 ((outs ++ [(⟨x.n, A5, c5, x.ops⟩ : PG)]).flatMap cPG)] [(3, .c (.v (.slice A6 (i + 1) c6))), (6, .c (.v (.slice (some ⟨ab, aoff, none⟩) ps.length c))), (7, .c (.v (.int .i64 ps.length))), (8, .c (.v (.int .i64 (i + 1 : Nat))))] (by kernel_rfl) (by decide) (by kernel_rfl) (by kernel_rfl) (fun _ => (by kernel_rfl)) (fun u => hih (outs ++ [(⟨x.n, A5, c5, x.ops⟩ : PG)]) A6 c6 w3 L3 (N3.imp fun w h => fun y hy => by
        rcases List.mem_append.1 hy with h1 | h1
        · exact h.2 y h1
        · rw [List.mem_singleton.1 h1]; exact h.1) (by rw [List.map_append, ho, List.take_add_one, hx, List.map_append]; rfl) (by rw [List.length_append, hol]; rfl) u)
  refine Hs.enter Tryz.func8 [] [] [] [.c (.v (.slice A ps.length c))] (Mem.start0 w) (by kernel_rfl) (by kernel_rfl) ?_
  refine Hs.run0 300 (fun _ => by kernel_rfl) ?_
  refine Hs.nilS 51 2 (by kernel_rfl) ?_ (by kernel_rfl)
  refine Hs.loop (by kernel_rfl) ?_
  exact Hs.goto (loopAt Tryz.f8 0) [0] [.s none 0 0 51 2 (([] : List PG).flatMap cPG)] [(3, .c (.v (.slice none 0 0))), (6, .c (.v (.slice A ps.length c))), (7, .c (.v (.int .i64 ps.length))), (8, .c (.v (.int .i64 (0 : Nat))))] (by kernel_rfl) (by decide) (by kernel_rfl) (by kernel_rfl) (fun _ => (by kernel_rfl)) (fun u => J ps.length 0 (by omega) (by omega) [] none 0 w [] ((Nx.start w).imp fun w h => fun y hy => by cases hy) rfl rfl u)
end Go.Proofs.YtmmcamkmglpgiaaGreatDoor
