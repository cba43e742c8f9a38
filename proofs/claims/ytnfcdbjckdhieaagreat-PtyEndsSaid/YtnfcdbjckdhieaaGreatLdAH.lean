/- Layer 16: a discipline handed in, copied; for all disciplines; no condition but their size. -/
import Derived.Test.YtnfcdbjckdhieaaGreatPkG
import Derived.Test.YtnfcdbjckdhieaaGreatPkD
namespace Go.Proofs.YtnfcdbjckdhieaaGreat
set_option linter.all false
set_option maxRecDepth 100000
open Go.RowKit

theorem new16_any (t : TM) (w : World) : Calls Tryz.prog 13 #[t.val] w (NewB w 96 (fun _ : Unit => discV (newD t) nilS) (fun _ _ => True)) := by
  refine Hs.enter Tryz.func13 [] [] [] [.g t.sc] (Mem.start0 w) (by kernel_rfl) (by kernel_rfl) ?_
  refine Hs.run2 300 (fun _ => by kernel_rfl) fun b0 b1 => ?_
  exact Hs.ret (v := .pointer (some ⟨b1, 0, none⟩)) Tryz.func13 (by kernel_rfl) fun w' H => (Nx.start w).newB H 1 () rfl (by kernel_rfl : _ = some (HB.b true 96 (discSC (newD t) nilS))) rfl fun w _ => trivial
def discP (d : DM) (s : DS) (n : Nat) : List SC := d.t.sc ++ [.v (.slice s.la d.line.length s.lc), .v (.bool d.next), .v (.slice s.sa n s.sc), .v (.slice s.ra d.raw.length s.rc), .v (.bool d.st), .v (.bool d.held), .v (.slice s.oa d.out.length s.oc), .v (.int .i64 d.col), .v (.int .i64 d.frm), .v (.int .i64 d.idle)]
theorem disc_wf (d : DM) (s : DS) (j : Nat) : (discSC d s).all (SC.wf j) = true := rfl
theorem elemLn16 : ElemT Tryz.prog 28 103 2 (Tryz.prog.bytesOf 103) := elemT_of (z := .agg #[.slice none 0 0, .bool false]) (by kernel_rfl) (by kernel_rfl) (by decide) (by decide)
theorem used_mem : ∀ {ls : List (List Int × Bool)} {p : List Int × Bool}, p ∈ ls → sizeM p ≤ usedM ls
  | q :: l, p, h => by
    have e : usedM (q :: l) = sizeM q + usedM l := by simp [usedM]
    rcases List.mem_cons.1 h with rfl | h
    · omega
    · have := used_mem h; omega
theorem to16_any (d : DM) (s : DS) (w : World) (h : Data s d w) (hf : Few d) : Calls Tryz.prog 36 #[.agg (discV d s).toArray] w (NewB w 96 (fun s => discV d s) (fun s => Data s d)) := by
  have h1 := hf.line
  have h2 := hf.raw
  have h3 := hf.out
  have hmap := h.map
  have hll := h.llen
  obtain ⟨xs, hxs⟩ : ∃ xs, xs = s.xs := ⟨_, rfl⟩
  have hrd : RdX cLn w s.sa xs := hxs ▸ h.lines.rd
  have hok : ∀ z ∈ xs, LnOk w z := hxs ▸ h.lines.all
  have hxl : d.lines.length = xs.length := by rw [hxs]; exact hll.symm
  rw [← hxs] at hmap
  have hxm5 : xs.length ≤ 50000 := by rw [← hxl]; exact hf.lines
  have hlen : xs.length ≤ maxLen := by unfold maxLen; omega
  have hxtl : ∀ x ∈ xs, x.txt.length ≤ 30000 := fun x hx => by
    have h4 : sizeM x.m ≤ usedM d.lines := by
      rw [← hmap]
      exact used_mem (List.mem_map.2 ⟨x, hx, rfl⟩)
    have h5 : x.txt.length ≤ sizeM x.m := Nat.le_add_right _ _
    have := hf.used
    omega
  clear hxs
  have J : ∀ (e i : Nat), xs.length - i = e → i ≤ xs.length → ∀ (outs : List Ln) (w2 : World) (L2 : List Nat) (A1 A2 A3 A4 : Option Addr) (c1 c2 c3 c4 : Nat), Nx w w2 L2 (fun w => (RdU w A1 c1 d.line ∧ RdU w A2 c2 d.raw ∧ RdU w A3 c3 d.out) ∧ ∀ z ∈ outs, LnOk w z) → outs.map Ln.m = (xs.take i).map Ln.m → outs.length = i → ∀ (b0 g : Nat) (u : Nat → Value), Hs Tryz.prog 36 (NewB w 96 (fun s => discV d s) (fun s => Data s d)) (Tryz.f36).ntmps w2 L2 [b0, g, 0] ⟨.no, loopAt Tryz.f36 0, pins [(1, .c (.p 0 0)), (3, .c (.p 1 0)), (68, .c (.v (.slice s.sa d.lines.length s.sc))), (69, .c (.v (.int .i64 d.lines.length))), (70, .c (.v (.int .i64 i)))] (.vals u), [.b true 30 (discSC d s), .b true 96 (discP d ⟨A1, c1, A4, c4, [], A2, c2, A3, c3⟩ i), .s A4 c4 i 128 2 (outs.flatMap cLn)]⟩ := by
    intro e
    induction e with
    | zero =>
      intro i hd hi outs w2 L2 A1 A2 A3 A4 c1 c2 c3 c4 N ho hol b0 g u
      obtain rfl : i = xs.length := by omega
      rw [List.take_length] at ho
      refine Hs.run0 300 (fun _ => by kernel_rfl) ?_
      refine Hs.condP ((xs.length : Int) < (d.lines.length : Int)) (by kernel_rfl) (fun h => by omega) (fun _ => ?_)
      refine Hs.runR0 11 [] 300 (fun _ => by kernel_rfl) ?_
      refine Hs.freezeN 2 (cf := cLn) (size := 2) (A := A4) (cap := c4) (nl := xs.length) (E := 128) N hol (by kernel_rfl) (by kernel_rfl) fun w3 L3 N3 => ?_
      refine Hs.run0 300 (fun _ => by kernel_rfl) ?_
      exact Hs.ret (v := .pointer (some ⟨g, 0, none⟩)) Tryz.func36 (by kernel_rfl) fun w' H => N3.newB H 1 ⟨A1, c1, A4, c4, outs, A2, c2, A3, c3⟩ rfl (by kernel_rfl : _ = some (HB.b true 96 (discP d ⟨A1, c1, A4, c4, [], A2, c2, A3, c3⟩ xs.length))) (by rw [discV, hxl]; rfl) fun w h => ⟨h.2.1.1, ⟨h.1.1, h.1.2.1, h.1.2.2, h.2.2⟩, by rw [ho]; exact hmap, h.2.1.2.1, h.2.1.2.2⟩
    | succ e ih =>
      intro i hd hi outs w2 L2 A1 A2 A3 A4 c1 c2 c3 c4 N ho hol b0 g u
      have hil : i < xs.length := by omega
      obtain ⟨x, hxi⟩ : ∃ x, xs[i]? = some x := ⟨_, List.getElem?_eq_getElem hil⟩
      have hxm : x ∈ xs := List.mem_of_getElem? hxi
      have hxt : x.txt.length ≤ 30000 := hxtl x hxm
      obtain ⟨ab, aoff, hA, _, _⟩ := hrd (by omega)
      refine Hs.run0 300 (fun _ => by kernel_rfl) ?_
      refine Hs.condP ((i : Int) < (d.lines.length : Int)) (by kernel_rfl) (fun _ => ?_) (fun h => by omega)
      rw [hA]
      refine Hs.run0 300 (fun _ => by kernel_rfl) ?_
      refine Hs.idx (b := ab) (off := aoff) (len := d.lines.length) (c := s.sc) (i := i) elemLn16 (by omega) (by kernel_rfl) ?_
      refine Hs.ldx (cf := cLn) (size := 2) (E := 103) (b := ab) (off := aoff) (i := i) (l := xs) (x := x) cLn_len (.g x.sc) (by kernel_rfl) (fun w' H => by rw [← hA]; exact hrd.only (N.only H)) hxi (by kernel_rfl) (by kernel_rfl) rfl (by kernel_rfl) ?_
      refine Hs.run1 300 (fun _ => by kernel_rfl) fun b1 => ?_
      refine Hs.any [0, 1, 3, 1016] (by kernel_rfl) ?_
      refine Hs.run1 300 (fun _ => by kernel_rfl) fun b2 => ?_
      refine Hs.litX (cf := cu8) (ty := 27) (c := x.c) 4 elemU8 x.txt x.txt.length rfl cu8_one cu8_len (by kernel_rfl) (by kernel_rfl) (by kernel_rfl) (fun w' H => (hok x hxm).1.only (N.only H)) (by unfold maxLen; omega) (by rw [by_u8]; omega) fun A5 c5 _ _ => ?_
      refine Hs.run1 300 (fun _ => by kernel_rfl) fun b3 => ?_
      refine Hs.app (cf := cLn) (c := 1) (ty := 93) 2 elemLn outs [(⟨A5, c5, x.txt, x.eof⟩ : Ln)] i 1 hol rfl cLn_one cLn_len (A := A4) (B := some ⟨b3, 0, none⟩) (cap := c4) (by kernel_rfl) (by kernel_rfl) (by kernel_rfl) (fun w' H => H.rdB (cf := cLn) (wr := true) (T := 128) (cs := Ln.sc ⟨A5, c5, x.txt, x.eof⟩) (gs := [(⟨A5, c5, x.txt, x.eof⟩ : Ln)]) 5 (by kernel_rfl) rfl) (by unfold maxLen; omega) (by rw [by_line]; omega) fun A6 c6 h6 => ?_
      refine Hs.run0 300 (fun _ => by kernel_rfl) ?_
      refine Hs.freezeN 4 (cf := cu8) (size := 1) (A := A5) (cap := c5) (nl := x.txt.length) (E := 5) N rfl (by kernel_rfl) (by kernel_rfl) fun w3 L3 N3 => ?_
      refine Hs.slot 70 (.c (.v (.int .i64 (i + 1 : Nat)))) rfl ((by kernel_rfl : _ = Value.int .i64 (IntKind.i64.wrap ((i : Int) + 1))).trans (wrap_nextJ hlen)) ?_
      refine Hs.loop (by kernel_rfl) ?_
      have hih := fun u => ih (i + 1) (by omega) (by omega) (outs ++ [(⟨A5, c5, x.txt, x.eof⟩ : Ln)]) w3 L3 A1 A2 A3 A6 c1 c2 c3 c6 (N3.imp fun w h => ⟨h.2.1, fun y hy => by
        rcases List.mem_append.1 hy with h1 | h1
        · exact h.2.2 y h1
        · rw [List.mem_singleton.1 h1]; exact h.1⟩) (by rw [List.map_append, ho, List.take_add_one, hxi, List.map_append]; rfl) (by rw [List.length_append, hol]; rfl) b0 g u
      rw [hA] at hih
      exact Hs.goto (loopAt Tryz.f36 0) [0, 1, 2] [.b true 30 (discSC d s), .b true 96 (discP d ⟨A1, c1, A6, c6, [], A2, c2, A3, c3⟩ (i + 1)), .s A6 c6 (i + 1) 128 2 ((outs ++ [(⟨A5, c5, x.txt, x.eof⟩ : Ln)]).flatMap cLn)] [(1, .c (.p 0 0)), (3, .c (.p 1 0)), (68, .c (.v (.slice (some ⟨ab, aoff, none⟩) d.lines.length s.sc))), (69, .c (.v (.int .i64 d.lines.length))), (70, .c (.v (.int .i64 (i + 1 : Nat))))] (by kernel_rfl) (by decide) (by kernel_rfl) (by kernel_rfl) (fun _ => (by kernel_rfl)) hih
  have K : ∀ (b0 g b3 b7 b11 : Nat) (w1 : World) (L1 : List Nat), Nx w w1 L1 (fun w => True ∧ True) → ∀ (A1 A2 A3 : Option Addr) (c1 c2 c3 : Nat) (u : Nat → Value), Hs Tryz.prog 36 (NewB w 96 (fun s => discV d s) (fun s => Data s d)) (Tryz.f36).ntmps w1 L1 [b0, g, b3, b7, b11] ⟨.no, atR Tryz.f36 6, pins [(1, .c (.p 0 0)), (3, .c (.p 1 0))] (.vals u), [.b true 30 (discSC d s), .b true 96 (discP d ⟨A1, c1, none, 0, [], A2, c2, A3, c3⟩ 0), .s A1 c1 d.line.length 5 1 (d.line.flatMap cu8), .s A2 c2 d.raw.length 5 1 (d.raw.flatMap cu8), .s A3 c3 d.out.length 5 1 (d.out.flatMap cu8)]⟩ := by
    intro b0 g b3 b7 b11 w1 L1 N1 A1 A2 A3 c1 c2 c3 u
    refine Hs.freezeN 2 (cf := cu8) (size := 1) (A := A1) (cap := c1) (nl := d.line.length) (E := 5) N1 rfl (by kernel_rfl) (by kernel_rfl) fun w2 L2 N2 => ?_
    refine Hs.freezeN 3 (cf := cu8) (size := 1) (A := A2) (cap := c2) (nl := d.raw.length) (E := 5) N2 rfl (by kernel_rfl) (by kernel_rfl) fun w3 L3 N3 => ?_
    refine Hs.freezeN 4 (cf := cu8) (size := 1) (A := A3) (cap := c3) (nl := d.out.length) (E := 5) N3 rfl (by kernel_rfl) (by kernel_rfl) fun w4 L4 N4 => ?_
    refine Hs.run0 300 (fun _ => by kernel_rfl) ?_
    refine Hs.nilS 128 2 (by kernel_rfl) ?_ (by kernel_rfl)
    refine Hs.loop (by kernel_rfl) ?_
    exact Hs.goto (loopAt Tryz.f36 0) [0, 1, 5] [.b true 30 (discSC d s), .b true 96 (discP d ⟨A1, c1, none, 0, [], A2, c2, A3, c3⟩ 0), .s none 0 0 128 2 (([] : List Ln).flatMap cLn)] [(1, .c (.p 0 0)), (3, .c (.p 1 0)), (68, .c (.v (.slice s.sa d.lines.length s.sc))), (69, .c (.v (.int .i64 d.lines.length))), (70, .c (.v (.int .i64 (0 : Nat))))] (by kernel_rfl) (by decide) (by kernel_rfl) (by kernel_rfl) (fun _ => (by kernel_rfl)) (fun u => J xs.length 0 (by omega) (by omega) [] w4 L4 A1 A2 A3 none c1 c2 c3 0 (N4.imp fun w h => ⟨⟨h.2.2.1, h.2.1, h.1⟩, fun y hy => by cases hy⟩) rfl rfl b0 g u)
  refine Hs.enter Tryz.func36 [] [] [] [.g (discSC d s)] (Mem.start0 w) (by kernel_rfl) (by kernel_rfl) ?_
  refine Hs.run1 300 (fun _ => by kernel_rfl) fun b0 => ?_
  refine Hs.callB 1 (fun _ => discSC (newD d.t) nilS) (Nx.start w) (fun w' H => new16_any d.t w') (fun β x => rfl) (fun x j => disc_wf _ _ _) (by kernel_rfl) (by kernel_rfl) (by kernel_rfl) fun g _ w1 L1 N1 => ?_
  refine Hs.run0 300 (fun _ => by kernel_rfl) ?_
  refine Hs.condF (by kernel_rfl) ?_
  refine Hs.run0 300 (fun _ => by kernel_rfl) ?_
  refine Hs.any [0] (by kernel_rfl) ?_
  refine Hs.run0 300 (fun _ => by kernel_rfl) ?_
  refine Hs.any [0] (by kernel_rfl) ?_
  refine Hs.run0 300 (fun _ => by kernel_rfl) ?_
  refine Hs.branch3 3 7 11 (by kernel_rfl) ?_ ?_ ?_
  · refine Hs.run1 300 (fun _ => by kernel_rfl) fun b3 => ?_
    refine Hs.branch3 6 7 11 (by kernel_rfl) ?_ ?_ ?_
    · refine Hs.litX (cf := cu8) (ty := 27) (c := s.lc) 2 elemU8 d.line d.line.length rfl cu8_one cu8_len (by kernel_rfl) (by kernel_rfl) (by kernel_rfl) (fun w' H => h.line.1.only (N1.only H)) (by unfold maxLen; omega) (by rw [by_u8]; omega) fun A1 c1 _ _ => ?_
      refine Hs.run0 300 (fun _ => by kernel_rfl) ?_
      refine Hs.branch2 7 11 (by kernel_rfl) ?_ ?_
      · refine Hs.run1 300 (fun _ => by kernel_rfl) fun b7 => ?_
        refine Hs.branch2 10 11 (by kernel_rfl) ?_ ?_
        · refine Hs.litX (cf := cu8) (ty := 27) (c := s.rc) 3 elemU8 d.raw d.raw.length rfl cu8_one cu8_len (by kernel_rfl) (by kernel_rfl) (by kernel_rfl) (fun w' H => h.raw.1.only (N1.only H)) (by unfold maxLen; omega) (by rw [by_u8]; omega) fun A2 c2 _ _ => ?_
          refine Hs.run1 300 (fun _ => by kernel_rfl) fun b11 => ?_
          refine Hs.litX (cf := cu8) (ty := 27) (c := s.oc) 4 elemU8 d.out d.out.length rfl cu8_one cu8_len (by kernel_rfl) (by kernel_rfl) (by kernel_rfl) (fun w' H => h.out.1.only (N1.only H)) (by unfold maxLen; omega) (by rw [by_u8]; omega) fun A3 c3 _ _ => ?_
          refine Hs.runR0 6 [] 300 (fun _ => by kernel_rfl) ?_
          exact Hs.goto (atR Tryz.f36 6) [0, 1, 2, 3, 4] [.b true 30 (discSC d s), .b true 96 (discP d ⟨A1, c1, none, 0, [], A2, c2, A3, c3⟩ 0), .s A1 c1 d.line.length 5 1 (d.line.flatMap cu8), .s A2 c2 d.raw.length 5 1 (d.raw.flatMap cu8), .s A3 c3 d.out.length 5 1 (d.out.flatMap cu8)] [(1, .c (.p 0 0)), (3, .c (.p 1 0))] (by kernel_rfl) (by decide) (by kernel_rfl) (by kernel_rfl) (fun _ => (by kernel_rfl)) (fun u => K b0 g b3 b7 b11 w1 L1 N1 A1 A2 A3 c1 c2 c3 u)
        · refine Hs.run1 300 (fun _ => by kernel_rfl) fun b11 => ?_
          refine Hs.litX (cf := cu8) (ty := 27) (c := s.rc) 3 elemU8 d.raw d.raw.length rfl cu8_one cu8_len (by kernel_rfl) (by kernel_rfl) (by kernel_rfl) (fun w' H => h.raw.1.only (N1.only H)) (by unfold maxLen; omega) (by rw [by_u8]; omega) fun A2 c2 _ _ => ?_
          refine Hs.run0 300 (fun _ => by kernel_rfl) ?_
          refine Hs.litX (cf := cu8) (ty := 27) (c := s.oc) 4 elemU8 d.out d.out.length rfl cu8_one cu8_len (by kernel_rfl) (by kernel_rfl) (by kernel_rfl) (fun w' H => h.out.1.only (N1.only H)) (by unfold maxLen; omega) (by rw [by_u8]; omega) fun A3 c3 _ _ => ?_
          refine Hs.runR0 6 [] 300 (fun _ => by kernel_rfl) ?_
          exact Hs.goto (atR Tryz.f36 6) [0, 1, 2, 3, 4] [.b true 30 (discSC d s), .b true 96 (discP d ⟨A1, c1, none, 0, [], A2, c2, A3, c3⟩ 0), .s A1 c1 d.line.length 5 1 (d.line.flatMap cu8), .s A2 c2 d.raw.length 5 1 (d.raw.flatMap cu8), .s A3 c3 d.out.length 5 1 (d.out.flatMap cu8)] [(1, .c (.p 0 0)), (3, .c (.p 1 0))] (by kernel_rfl) (by decide) (by kernel_rfl) (by kernel_rfl) (fun _ => (by kernel_rfl)) (fun u => K b0 g b3 b7 b11 w1 L1 N1 A1 A2 A3 c1 c2 c3 u)
      · refine Hs.run2 300 (fun _ => by kernel_rfl) fun b11 b7 => ?_
        refine Hs.litX (cf := cu8) (ty := 27) (c := s.rc) 4 elemU8 d.raw d.raw.length rfl cu8_one cu8_len (by kernel_rfl) (by kernel_rfl) (by kernel_rfl) (fun w' H => h.raw.1.only (N1.only H)) (by unfold maxLen; omega) (by rw [by_u8]; omega) fun A2 c2 _ _ => ?_
        refine Hs.run0 300 (fun _ => by kernel_rfl) ?_
        refine Hs.litX (cf := cu8) (ty := 27) (c := s.oc) 3 elemU8 d.out d.out.length rfl cu8_one cu8_len (by kernel_rfl) (by kernel_rfl) (by kernel_rfl) (fun w' H => h.out.1.only (N1.only H)) (by unfold maxLen; omega) (by rw [by_u8]; omega) fun A3 c3 _ _ => ?_
        refine Hs.runR0 6 [] 300 (fun _ => by kernel_rfl) ?_
        exact Hs.goto (atR Tryz.f36 6) [0, 1, 2, 4, 3] [.b true 30 (discSC d s), .b true 96 (discP d ⟨A1, c1, none, 0, [], A2, c2, A3, c3⟩ 0), .s A1 c1 d.line.length 5 1 (d.line.flatMap cu8), .s A2 c2 d.raw.length 5 1 (d.raw.flatMap cu8), .s A3 c3 d.out.length 5 1 (d.out.flatMap cu8)] [(1, .c (.p 0 0)), (3, .c (.p 1 0))] (by kernel_rfl) (by decide) (by kernel_rfl) (by kernel_rfl) (fun _ => (by kernel_rfl)) (fun u => K b0 g b3 b7 b11 w1 L1 N1 A1 A2 A3 c1 c2 c3 u)
    · refine Hs.run1 300 (fun _ => by kernel_rfl) fun b7 => ?_
      refine Hs.branch2 6 11 (by kernel_rfl) ?_ ?_
      · refine Hs.litX (cf := cu8) (ty := 27) (c := s.lc) 2 elemU8 d.line d.line.length rfl cu8_one cu8_len (by kernel_rfl) (by kernel_rfl) (by kernel_rfl) (fun w' H => h.line.1.only (N1.only H)) (by unfold maxLen; omega) (by rw [by_u8]; omega) fun A1 c1 _ _ => ?_
        refine Hs.run0 300 (fun _ => by kernel_rfl) ?_
        refine Hs.branch2 10 11 (by kernel_rfl) ?_ ?_
        · refine Hs.litX (cf := cu8) (ty := 27) (c := s.rc) 3 elemU8 d.raw d.raw.length rfl cu8_one cu8_len (by kernel_rfl) (by kernel_rfl) (by kernel_rfl) (fun w' H => h.raw.1.only (N1.only H)) (by unfold maxLen; omega) (by rw [by_u8]; omega) fun A2 c2 _ _ => ?_
          refine Hs.run1 300 (fun _ => by kernel_rfl) fun b11 => ?_
          refine Hs.litX (cf := cu8) (ty := 27) (c := s.oc) 4 elemU8 d.out d.out.length rfl cu8_one cu8_len (by kernel_rfl) (by kernel_rfl) (by kernel_rfl) (fun w' H => h.out.1.only (N1.only H)) (by unfold maxLen; omega) (by rw [by_u8]; omega) fun A3 c3 _ _ => ?_
          refine Hs.runR0 6 [] 300 (fun _ => by kernel_rfl) ?_
          exact Hs.goto (atR Tryz.f36 6) [0, 1, 2, 3, 4] [.b true 30 (discSC d s), .b true 96 (discP d ⟨A1, c1, none, 0, [], A2, c2, A3, c3⟩ 0), .s A1 c1 d.line.length 5 1 (d.line.flatMap cu8), .s A2 c2 d.raw.length 5 1 (d.raw.flatMap cu8), .s A3 c3 d.out.length 5 1 (d.out.flatMap cu8)] [(1, .c (.p 0 0)), (3, .c (.p 1 0))] (by kernel_rfl) (by decide) (by kernel_rfl) (by kernel_rfl) (fun _ => (by kernel_rfl)) (fun u => K b0 g b3 b7 b11 w1 L1 N1 A1 A2 A3 c1 c2 c3 u)
        · refine Hs.run1 300 (fun _ => by kernel_rfl) fun b11 => ?_
          refine Hs.litX (cf := cu8) (ty := 27) (c := s.rc) 3 elemU8 d.raw d.raw.length rfl cu8_one cu8_len (by kernel_rfl) (by kernel_rfl) (by kernel_rfl) (fun w' H => h.raw.1.only (N1.only H)) (by unfold maxLen; omega) (by rw [by_u8]; omega) fun A2 c2 _ _ => ?_
          refine Hs.run0 300 (fun _ => by kernel_rfl) ?_
          refine Hs.litX (cf := cu8) (ty := 27) (c := s.oc) 4 elemU8 d.out d.out.length rfl cu8_one cu8_len (by kernel_rfl) (by kernel_rfl) (by kernel_rfl) (fun w' H => h.out.1.only (N1.only H)) (by unfold maxLen; omega) (by rw [by_u8]; omega) fun A3 c3 _ _ => ?_
          refine Hs.runR0 6 [] 300 (fun _ => by kernel_rfl) ?_
          exact Hs.goto (atR Tryz.f36 6) [0, 1, 2, 3, 4] [.b true 30 (discSC d s), .b true 96 (discP d ⟨A1, c1, none, 0, [], A2, c2, A3, c3⟩ 0), .s A1 c1 d.line.length 5 1 (d.line.flatMap cu8), .s A2 c2 d.raw.length 5 1 (d.raw.flatMap cu8), .s A3 c3 d.out.length 5 1 (d.out.flatMap cu8)] [(1, .c (.p 0 0)), (3, .c (.p 1 0))] (by kernel_rfl) (by decide) (by kernel_rfl) (by kernel_rfl) (fun _ => (by kernel_rfl)) (fun u => K b0 g b3 b7 b11 w1 L1 N1 A1 A2 A3 c1 c2 c3 u)
      · refine Hs.run1 300 (fun _ => by kernel_rfl) fun b11 => ?_
        refine Hs.litX (cf := cu8) (ty := 27) (c := s.lc) 2 elemU8 d.line d.line.length rfl cu8_one cu8_len (by kernel_rfl) (by kernel_rfl) (by kernel_rfl) (fun w' H => h.line.1.only (N1.only H)) (by unfold maxLen; omega) (by rw [by_u8]; omega) fun A1 c1 _ _ => ?_
        refine Hs.run0 300 (fun _ => by kernel_rfl) ?_
        refine Hs.litX (cf := cu8) (ty := 27) (c := s.rc) 3 elemU8 d.raw d.raw.length rfl cu8_one cu8_len (by kernel_rfl) (by kernel_rfl) (by kernel_rfl) (fun w' H => h.raw.1.only (N1.only H)) (by unfold maxLen; omega) (by rw [by_u8]; omega) fun A2 c2 _ _ => ?_
        refine Hs.run0 300 (fun _ => by kernel_rfl) ?_
        refine Hs.litX (cf := cu8) (ty := 27) (c := s.oc) 4 elemU8 d.out d.out.length rfl cu8_one cu8_len (by kernel_rfl) (by kernel_rfl) (by kernel_rfl) (fun w' H => h.out.1.only (N1.only H)) (by unfold maxLen; omega) (by rw [by_u8]; omega) fun A3 c3 _ _ => ?_
        refine Hs.runR0 6 [] 300 (fun _ => by kernel_rfl) ?_
        exact Hs.goto (atR Tryz.f36 6) [0, 1, 2, 3, 4] [.b true 30 (discSC d s), .b true 96 (discP d ⟨A1, c1, none, 0, [], A2, c2, A3, c3⟩ 0), .s A1 c1 d.line.length 5 1 (d.line.flatMap cu8), .s A2 c2 d.raw.length 5 1 (d.raw.flatMap cu8), .s A3 c3 d.out.length 5 1 (d.out.flatMap cu8)] [(1, .c (.p 0 0)), (3, .c (.p 1 0))] (by kernel_rfl) (by decide) (by kernel_rfl) (by kernel_rfl) (fun _ => (by kernel_rfl)) (fun u => K b0 g b3 b7 b11 w1 L1 N1 A1 A2 A3 c1 c2 c3 u)
    · refine Hs.run1 300 (fun _ => by kernel_rfl) fun b11 => ?_
      refine Hs.branch2 6 7 (by kernel_rfl) ?_ ?_
      · refine Hs.litX (cf := cu8) (ty := 27) (c := s.lc) 2 elemU8 d.line d.line.length rfl cu8_one cu8_len (by kernel_rfl) (by kernel_rfl) (by kernel_rfl) (fun w' H => h.line.1.only (N1.only H)) (by unfold maxLen; omega) (by rw [by_u8]; omega) fun A1 c1 _ _ => ?_
        refine Hs.run1 300 (fun _ => by kernel_rfl) fun b7 => ?_
        refine Hs.litX (cf := cu8) (ty := 27) (c := s.rc) 4 elemU8 d.raw d.raw.length rfl cu8_one cu8_len (by kernel_rfl) (by kernel_rfl) (by kernel_rfl) (fun w' H => h.raw.1.only (N1.only H)) (by unfold maxLen; omega) (by rw [by_u8]; omega) fun A2 c2 _ _ => ?_
        refine Hs.run0 300 (fun _ => by kernel_rfl) ?_
        refine Hs.litX (cf := cu8) (ty := 27) (c := s.oc) 3 elemU8 d.out d.out.length rfl cu8_one cu8_len (by kernel_rfl) (by kernel_rfl) (by kernel_rfl) (fun w' H => h.out.1.only (N1.only H)) (by unfold maxLen; omega) (by rw [by_u8]; omega) fun A3 c3 _ _ => ?_
        refine Hs.runR0 6 [] 300 (fun _ => by kernel_rfl) ?_
        exact Hs.goto (atR Tryz.f36 6) [0, 1, 2, 4, 3] [.b true 30 (discSC d s), .b true 96 (discP d ⟨A1, c1, none, 0, [], A2, c2, A3, c3⟩ 0), .s A1 c1 d.line.length 5 1 (d.line.flatMap cu8), .s A2 c2 d.raw.length 5 1 (d.raw.flatMap cu8), .s A3 c3 d.out.length 5 1 (d.out.flatMap cu8)] [(1, .c (.p 0 0)), (3, .c (.p 1 0))] (by kernel_rfl) (by decide) (by kernel_rfl) (by kernel_rfl) (fun _ => (by kernel_rfl)) (fun u => K b0 g b3 b7 b11 w1 L1 N1 A1 A2 A3 c1 c2 c3 u)
      · refine Hs.run1 300 (fun _ => by kernel_rfl) fun b7 => ?_
        refine Hs.litX (cf := cu8) (ty := 27) (c := s.lc) 2 elemU8 d.line d.line.length rfl cu8_one cu8_len (by kernel_rfl) (by kernel_rfl) (by kernel_rfl) (fun w' H => h.line.1.only (N1.only H)) (by unfold maxLen; omega) (by rw [by_u8]; omega) fun A1 c1 _ _ => ?_
        refine Hs.run0 300 (fun _ => by kernel_rfl) ?_
        refine Hs.litX (cf := cu8) (ty := 27) (c := s.rc) 4 elemU8 d.raw d.raw.length rfl cu8_one cu8_len (by kernel_rfl) (by kernel_rfl) (by kernel_rfl) (fun w' H => h.raw.1.only (N1.only H)) (by unfold maxLen; omega) (by rw [by_u8]; omega) fun A2 c2 _ _ => ?_
        refine Hs.run0 300 (fun _ => by kernel_rfl) ?_
        refine Hs.litX (cf := cu8) (ty := 27) (c := s.oc) 3 elemU8 d.out d.out.length rfl cu8_one cu8_len (by kernel_rfl) (by kernel_rfl) (by kernel_rfl) (fun w' H => h.out.1.only (N1.only H)) (by unfold maxLen; omega) (by rw [by_u8]; omega) fun A3 c3 _ _ => ?_
        refine Hs.runR0 6 [] 300 (fun _ => by kernel_rfl) ?_
        exact Hs.goto (atR Tryz.f36 6) [0, 1, 2, 4, 3] [.b true 30 (discSC d s), .b true 96 (discP d ⟨A1, c1, none, 0, [], A2, c2, A3, c3⟩ 0), .s A1 c1 d.line.length 5 1 (d.line.flatMap cu8), .s A2 c2 d.raw.length 5 1 (d.raw.flatMap cu8), .s A3 c3 d.out.length 5 1 (d.out.flatMap cu8)] [(1, .c (.p 0 0)), (3, .c (.p 1 0))] (by kernel_rfl) (by decide) (by kernel_rfl) (by kernel_rfl) (fun _ => (by kernel_rfl)) (fun u => K b0 g b3 b7 b11 w1 L1 N1 A1 A2 A3 c1 c2 c3 u)
  · refine Hs.run1 300 (fun _ => by kernel_rfl) fun b7 => ?_
    refine Hs.branch2 3 11 (by kernel_rfl) ?_ ?_
    · refine Hs.run1 300 (fun _ => by kernel_rfl) fun b3 => ?_
      refine Hs.branch2 6 11 (by kernel_rfl) ?_ ?_
      · refine Hs.litX (cf := cu8) (ty := 27) (c := s.lc) 3 elemU8 d.line d.line.length rfl cu8_one cu8_len (by kernel_rfl) (by kernel_rfl) (by kernel_rfl) (fun w' H => h.line.1.only (N1.only H)) (by unfold maxLen; omega) (by rw [by_u8]; omega) fun A1 c1 _ _ => ?_
        refine Hs.run0 300 (fun _ => by kernel_rfl) ?_
        refine Hs.branch2 10 11 (by kernel_rfl) ?_ ?_
        · refine Hs.litX (cf := cu8) (ty := 27) (c := s.rc) 2 elemU8 d.raw d.raw.length rfl cu8_one cu8_len (by kernel_rfl) (by kernel_rfl) (by kernel_rfl) (fun w' H => h.raw.1.only (N1.only H)) (by unfold maxLen; omega) (by rw [by_u8]; omega) fun A2 c2 _ _ => ?_
          refine Hs.run1 300 (fun _ => by kernel_rfl) fun b11 => ?_
          refine Hs.litX (cf := cu8) (ty := 27) (c := s.oc) 4 elemU8 d.out d.out.length rfl cu8_one cu8_len (by kernel_rfl) (by kernel_rfl) (by kernel_rfl) (fun w' H => h.out.1.only (N1.only H)) (by unfold maxLen; omega) (by rw [by_u8]; omega) fun A3 c3 _ _ => ?_
          refine Hs.runR0 6 [] 300 (fun _ => by kernel_rfl) ?_
          exact Hs.goto (atR Tryz.f36 6) [0, 1, 3, 2, 4] [.b true 30 (discSC d s), .b true 96 (discP d ⟨A1, c1, none, 0, [], A2, c2, A3, c3⟩ 0), .s A1 c1 d.line.length 5 1 (d.line.flatMap cu8), .s A2 c2 d.raw.length 5 1 (d.raw.flatMap cu8), .s A3 c3 d.out.length 5 1 (d.out.flatMap cu8)] [(1, .c (.p 0 0)), (3, .c (.p 1 0))] (by kernel_rfl) (by decide) (by kernel_rfl) (by kernel_rfl) (fun _ => (by kernel_rfl)) (fun u => K b0 g b3 b7 b11 w1 L1 N1 A1 A2 A3 c1 c2 c3 u)
        · refine Hs.run1 300 (fun _ => by kernel_rfl) fun b11 => ?_
          refine Hs.litX (cf := cu8) (ty := 27) (c := s.rc) 2 elemU8 d.raw d.raw.length rfl cu8_one cu8_len (by kernel_rfl) (by kernel_rfl) (by kernel_rfl) (fun w' H => h.raw.1.only (N1.only H)) (by unfold maxLen; omega) (by rw [by_u8]; omega) fun A2 c2 _ _ => ?_
          refine Hs.run0 300 (fun _ => by kernel_rfl) ?_
          refine Hs.litX (cf := cu8) (ty := 27) (c := s.oc) 4 elemU8 d.out d.out.length rfl cu8_one cu8_len (by kernel_rfl) (by kernel_rfl) (by kernel_rfl) (fun w' H => h.out.1.only (N1.only H)) (by unfold maxLen; omega) (by rw [by_u8]; omega) fun A3 c3 _ _ => ?_
          refine Hs.runR0 6 [] 300 (fun _ => by kernel_rfl) ?_
          exact Hs.goto (atR Tryz.f36 6) [0, 1, 3, 2, 4] [.b true 30 (discSC d s), .b true 96 (discP d ⟨A1, c1, none, 0, [], A2, c2, A3, c3⟩ 0), .s A1 c1 d.line.length 5 1 (d.line.flatMap cu8), .s A2 c2 d.raw.length 5 1 (d.raw.flatMap cu8), .s A3 c3 d.out.length 5 1 (d.out.flatMap cu8)] [(1, .c (.p 0 0)), (3, .c (.p 1 0))] (by kernel_rfl) (by decide) (by kernel_rfl) (by kernel_rfl) (fun _ => (by kernel_rfl)) (fun u => K b0 g b3 b7 b11 w1 L1 N1 A1 A2 A3 c1 c2 c3 u)
      · refine Hs.run1 300 (fun _ => by kernel_rfl) fun b11 => ?_
        refine Hs.litX (cf := cu8) (ty := 27) (c := s.lc) 3 elemU8 d.line d.line.length rfl cu8_one cu8_len (by kernel_rfl) (by kernel_rfl) (by kernel_rfl) (fun w' H => h.line.1.only (N1.only H)) (by unfold maxLen; omega) (by rw [by_u8]; omega) fun A1 c1 _ _ => ?_
        refine Hs.run0 300 (fun _ => by kernel_rfl) ?_
        refine Hs.litX (cf := cu8) (ty := 27) (c := s.rc) 2 elemU8 d.raw d.raw.length rfl cu8_one cu8_len (by kernel_rfl) (by kernel_rfl) (by kernel_rfl) (fun w' H => h.raw.1.only (N1.only H)) (by unfold maxLen; omega) (by rw [by_u8]; omega) fun A2 c2 _ _ => ?_
        refine Hs.run0 300 (fun _ => by kernel_rfl) ?_
        refine Hs.litX (cf := cu8) (ty := 27) (c := s.oc) 4 elemU8 d.out d.out.length rfl cu8_one cu8_len (by kernel_rfl) (by kernel_rfl) (by kernel_rfl) (fun w' H => h.out.1.only (N1.only H)) (by unfold maxLen; omega) (by rw [by_u8]; omega) fun A3 c3 _ _ => ?_
        refine Hs.runR0 6 [] 300 (fun _ => by kernel_rfl) ?_
        exact Hs.goto (atR Tryz.f36 6) [0, 1, 3, 2, 4] [.b true 30 (discSC d s), .b true 96 (discP d ⟨A1, c1, none, 0, [], A2, c2, A3, c3⟩ 0), .s A1 c1 d.line.length 5 1 (d.line.flatMap cu8), .s A2 c2 d.raw.length 5 1 (d.raw.flatMap cu8), .s A3 c3 d.out.length 5 1 (d.out.flatMap cu8)] [(1, .c (.p 0 0)), (3, .c (.p 1 0))] (by kernel_rfl) (by decide) (by kernel_rfl) (by kernel_rfl) (fun _ => (by kernel_rfl)) (fun u => K b0 g b3 b7 b11 w1 L1 N1 A1 A2 A3 c1 c2 c3 u)
    · refine Hs.run2 300 (fun _ => by kernel_rfl) fun b11 b3 => ?_
      refine Hs.litX (cf := cu8) (ty := 27) (c := s.lc) 4 elemU8 d.line d.line.length rfl cu8_one cu8_len (by kernel_rfl) (by kernel_rfl) (by kernel_rfl) (fun w' H => h.line.1.only (N1.only H)) (by unfold maxLen; omega) (by rw [by_u8]; omega) fun A1 c1 _ _ => ?_
      refine Hs.run0 300 (fun _ => by kernel_rfl) ?_
      refine Hs.litX (cf := cu8) (ty := 27) (c := s.rc) 2 elemU8 d.raw d.raw.length rfl cu8_one cu8_len (by kernel_rfl) (by kernel_rfl) (by kernel_rfl) (fun w' H => h.raw.1.only (N1.only H)) (by unfold maxLen; omega) (by rw [by_u8]; omega) fun A2 c2 _ _ => ?_
      refine Hs.run0 300 (fun _ => by kernel_rfl) ?_
      refine Hs.litX (cf := cu8) (ty := 27) (c := s.oc) 3 elemU8 d.out d.out.length rfl cu8_one cu8_len (by kernel_rfl) (by kernel_rfl) (by kernel_rfl) (fun w' H => h.out.1.only (N1.only H)) (by unfold maxLen; omega) (by rw [by_u8]; omega) fun A3 c3 _ _ => ?_
      refine Hs.runR0 6 [] 300 (fun _ => by kernel_rfl) ?_
      exact Hs.goto (atR Tryz.f36 6) [0, 1, 4, 2, 3] [.b true 30 (discSC d s), .b true 96 (discP d ⟨A1, c1, none, 0, [], A2, c2, A3, c3⟩ 0), .s A1 c1 d.line.length 5 1 (d.line.flatMap cu8), .s A2 c2 d.raw.length 5 1 (d.raw.flatMap cu8), .s A3 c3 d.out.length 5 1 (d.out.flatMap cu8)] [(1, .c (.p 0 0)), (3, .c (.p 1 0))] (by kernel_rfl) (by decide) (by kernel_rfl) (by kernel_rfl) (fun _ => (by kernel_rfl)) (fun u => K b0 g b3 b7 b11 w1 L1 N1 A1 A2 A3 c1 c2 c3 u)
  · refine Hs.run1 300 (fun _ => by kernel_rfl) fun b11 => ?_
    refine Hs.branch2 3 7 (by kernel_rfl) ?_ ?_
    · refine Hs.run1 300 (fun _ => by kernel_rfl) fun b3 => ?_
      refine Hs.branch2 6 7 (by kernel_rfl) ?_ ?_
      · refine Hs.litX (cf := cu8) (ty := 27) (c := s.lc) 3 elemU8 d.line d.line.length rfl cu8_one cu8_len (by kernel_rfl) (by kernel_rfl) (by kernel_rfl) (fun w' H => h.line.1.only (N1.only H)) (by unfold maxLen; omega) (by rw [by_u8]; omega) fun A1 c1 _ _ => ?_
        refine Hs.run1 300 (fun _ => by kernel_rfl) fun b7 => ?_
        refine Hs.litX (cf := cu8) (ty := 27) (c := s.rc) 4 elemU8 d.raw d.raw.length rfl cu8_one cu8_len (by kernel_rfl) (by kernel_rfl) (by kernel_rfl) (fun w' H => h.raw.1.only (N1.only H)) (by unfold maxLen; omega) (by rw [by_u8]; omega) fun A2 c2 _ _ => ?_
        refine Hs.run0 300 (fun _ => by kernel_rfl) ?_
        refine Hs.litX (cf := cu8) (ty := 27) (c := s.oc) 2 elemU8 d.out d.out.length rfl cu8_one cu8_len (by kernel_rfl) (by kernel_rfl) (by kernel_rfl) (fun w' H => h.out.1.only (N1.only H)) (by unfold maxLen; omega) (by rw [by_u8]; omega) fun A3 c3 _ _ => ?_
        refine Hs.runR0 6 [] 300 (fun _ => by kernel_rfl) ?_
        exact Hs.goto (atR Tryz.f36 6) [0, 1, 3, 4, 2] [.b true 30 (discSC d s), .b true 96 (discP d ⟨A1, c1, none, 0, [], A2, c2, A3, c3⟩ 0), .s A1 c1 d.line.length 5 1 (d.line.flatMap cu8), .s A2 c2 d.raw.length 5 1 (d.raw.flatMap cu8), .s A3 c3 d.out.length 5 1 (d.out.flatMap cu8)] [(1, .c (.p 0 0)), (3, .c (.p 1 0))] (by kernel_rfl) (by decide) (by kernel_rfl) (by kernel_rfl) (fun _ => (by kernel_rfl)) (fun u => K b0 g b3 b7 b11 w1 L1 N1 A1 A2 A3 c1 c2 c3 u)
      · refine Hs.run1 300 (fun _ => by kernel_rfl) fun b7 => ?_
        refine Hs.litX (cf := cu8) (ty := 27) (c := s.lc) 3 elemU8 d.line d.line.length rfl cu8_one cu8_len (by kernel_rfl) (by kernel_rfl) (by kernel_rfl) (fun w' H => h.line.1.only (N1.only H)) (by unfold maxLen; omega) (by rw [by_u8]; omega) fun A1 c1 _ _ => ?_
        refine Hs.run0 300 (fun _ => by kernel_rfl) ?_
        refine Hs.litX (cf := cu8) (ty := 27) (c := s.rc) 4 elemU8 d.raw d.raw.length rfl cu8_one cu8_len (by kernel_rfl) (by kernel_rfl) (by kernel_rfl) (fun w' H => h.raw.1.only (N1.only H)) (by unfold maxLen; omega) (by rw [by_u8]; omega) fun A2 c2 _ _ => ?_
        refine Hs.run0 300 (fun _ => by kernel_rfl) ?_
        refine Hs.litX (cf := cu8) (ty := 27) (c := s.oc) 2 elemU8 d.out d.out.length rfl cu8_one cu8_len (by kernel_rfl) (by kernel_rfl) (by kernel_rfl) (fun w' H => h.out.1.only (N1.only H)) (by unfold maxLen; omega) (by rw [by_u8]; omega) fun A3 c3 _ _ => ?_
        refine Hs.runR0 6 [] 300 (fun _ => by kernel_rfl) ?_
        exact Hs.goto (atR Tryz.f36 6) [0, 1, 3, 4, 2] [.b true 30 (discSC d s), .b true 96 (discP d ⟨A1, c1, none, 0, [], A2, c2, A3, c3⟩ 0), .s A1 c1 d.line.length 5 1 (d.line.flatMap cu8), .s A2 c2 d.raw.length 5 1 (d.raw.flatMap cu8), .s A3 c3 d.out.length 5 1 (d.out.flatMap cu8)] [(1, .c (.p 0 0)), (3, .c (.p 1 0))] (by kernel_rfl) (by decide) (by kernel_rfl) (by kernel_rfl) (fun _ => (by kernel_rfl)) (fun u => K b0 g b3 b7 b11 w1 L1 N1 A1 A2 A3 c1 c2 c3 u)
    · refine Hs.run2 300 (fun _ => by kernel_rfl) fun b7 b3 => ?_
      refine Hs.litX (cf := cu8) (ty := 27) (c := s.lc) 4 elemU8 d.line d.line.length rfl cu8_one cu8_len (by kernel_rfl) (by kernel_rfl) (by kernel_rfl) (fun w' H => h.line.1.only (N1.only H)) (by unfold maxLen; omega) (by rw [by_u8]; omega) fun A1 c1 _ _ => ?_
      refine Hs.run0 300 (fun _ => by kernel_rfl) ?_
      refine Hs.litX (cf := cu8) (ty := 27) (c := s.rc) 3 elemU8 d.raw d.raw.length rfl cu8_one cu8_len (by kernel_rfl) (by kernel_rfl) (by kernel_rfl) (fun w' H => h.raw.1.only (N1.only H)) (by unfold maxLen; omega) (by rw [by_u8]; omega) fun A2 c2 _ _ => ?_
      refine Hs.run0 300 (fun _ => by kernel_rfl) ?_
      refine Hs.litX (cf := cu8) (ty := 27) (c := s.oc) 2 elemU8 d.out d.out.length rfl cu8_one cu8_len (by kernel_rfl) (by kernel_rfl) (by kernel_rfl) (fun w' H => h.out.1.only (N1.only H)) (by unfold maxLen; omega) (by rw [by_u8]; omega) fun A3 c3 _ _ => ?_
      refine Hs.runR0 6 [] 300 (fun _ => by kernel_rfl) ?_
      exact Hs.goto (atR Tryz.f36 6) [0, 1, 4, 3, 2] [.b true 30 (discSC d s), .b true 96 (discP d ⟨A1, c1, none, 0, [], A2, c2, A3, c3⟩ 0), .s A1 c1 d.line.length 5 1 (d.line.flatMap cu8), .s A2 c2 d.raw.length 5 1 (d.raw.flatMap cu8), .s A3 c3 d.out.length 5 1 (d.out.flatMap cu8)] [(1, .c (.p 0 0)), (3, .c (.p 1 0))] (by kernel_rfl) (by decide) (by kernel_rfl) (by kernel_rfl) (fun _ => (by kernel_rfl)) (fun u => K b0 g b3 b7 b11 w1 L1 N1 A1 A2 A3 c1 c2 c3 u)
end Go.Proofs.YtnfcdbjckdhieaaGreat
