/- Layer 27: sessions handed from one package to another one; the document's Same; for all sessions; no condition but the number of variables · Layer 4: Encode; no condition but the sizes that can be · Layer 27: the document's examples; global 0 holds a number · Layer 27: the document's examples; global 0 holds a number · Layer 27: just names that are known do anything; the law's walk; for all sessions and texts; global 0 holds a number · Arguments opened, down to their cells: structs in structs, texts, flags, slices of structs. Over any program; no condition · The frame of a law: if the call returns true and leaves all memory that was there as it was, then the law's row holds; the walk is told the reach; no condition. A slice within a struct, opened · Arguments opened with what each of their slices weighs: structs in structs, arrays, slices in slices. Over any program; no condition · Layer 27: arguments opened: settings, sessions, variables; no condition · The frame of a law whose row lists tables: if the call returns true and leaves all memory that was there as it was, then the law's row holds; the walk is told the reach and the world's shape; no condition. -/
import Derived.Test.YtdplnedpbkpgpaaGreatDoorSgD
import Derived.Test.YtdplnedpbkpgpaaGreatDoorSgC
import Derived.Test.YtdplnedpbkpgpaaGreatDoorKit
import Derived.Deep.Fields
import Derived.Deep.Slices
import Derived.Test.YtdplnedpbkpgpaaGreatDoorFrame
import Derived.SizedLaws
import Derived.Deep.Strs
import Derived.Test.YtdplnedpbkpgpaaGreatDoorApX
import Derived.Test.YtdplnedpbkpgpaaGreatDoorSgA
import Derived.OpenShut
import Derived.HandedShaped
import Derived.Shelf.Vars
import Derived.Lay
import Derived.LaidLaws
import Derived.SevenTiedAt
namespace Go.Proofs.YtdplnedpbkpgpaaGreatDoor
set_option linter.all false
set_option maxRecDepth 100000
open Go.RowKit
def sesSC (s : SS) (A : Option Addr) (n cap : Nat) : List SC := [.v (.bool s.pty), .v (.string s.term), .v (.int .u32 s.c0), .v (.int .u32 s.c1), .v (.int .u32 s.c2), .v (.int .u32 s.c3), .v (.int .u8 (s.t.ch 0)), .v (.int .u8 (s.t.ch 1)), .v (.int .u8 (s.t.ch 2)), .v (.int .u8 (s.t.ch 3)), .v (.int .u8 (s.t.ch 4)), .v (.int .u8 (s.t.ch 5)), .v (.int .u8 (s.t.ch 6)), .v (.int .u8 (s.t.ch 7)), .v (.int .u8 (s.t.ch 8)), .v (.int .u8 (s.t.ch 9)), .v (.int .u8 (s.t.ch 10)), .v (.int .u8 (s.t.ch 11)), .v (.int .u8 (s.t.ch 12)), .v (.int .u8 (s.t.ch 13)), .v (.int .u8 (s.t.ch 14)), .v (.int .u8 (s.t.ch 15)), .v (.int .u8 (s.t.ch 16)), .v (.int .u8 (s.t.ch 17)), .v (.int .u8 (s.t.ch 18)), .v (.int .u64 s.t.fl), .v (.int .u32 s.t.inn), .v (.int .u32 s.t.out), .v (.int .i64 s.t.mn), .v (.int .i64 s.t.tm), .v (.slice A n cap), .v (.bool s.st)]
theorem elemRv27 : ElemT Tryz.prog 29 76 2 (Tryz.prog.bytesOf 76) := elemT_of (z := .agg #[.string ⟨#[]⟩, .string ⟨#[]⟩]) (by kernel_rfl) (by kernel_rfl) (by decide) (by decide)
theorem by_rv27 : Tryz.prog.bytesOf 76 = 32 := by kernel_rfl
/-- A session of whatever package, its variables in new memory. -/
def SesPost (E : Nat) (s : SS) (w : World) : Ending → World → Prop := fun e w' => ∃ A' cap', e = .returned (s.val A' cap') ∧ Only [] w w' ∧ OwnX cVar E 2 w' w.heap.size (.slice A' s.env.length cap') s.env
def zS27 : SS := ⟨false, ⟨#[]⟩, 0, 0, 0, 0, zeroT, [], false⟩
theorem to27_any27 (s : SS) (A : Option Addr) (cap : Nat) (w : World) (hr : RdX cVar w A s.env) (hle : s.env.length ≤ 1000000) : Calls Tryz.prog 10 #[s.val A cap] w (SesPost 59 s w) := by
  have J : ∀ (d i : Nat), s.env.length - i = d → i ≤ s.env.length → ∀ (b0 b1 b2 : Nat) (A4 : Option Addr) (c4 : Nat) (u : Nat → Value), Hs Tryz.prog 10 (SesPost 59 s w) (Tryz.f10).ntmps w [] [b0, b1, b2, 0] ⟨.no, loopAt Tryz.f10 0, pins [(2, .c (.p 1 0)), (3, .c (.p 2 0)), (18, .c (.v (.slice A s.env.length cap))), (19, .c (.v (.int .i64 s.env.length))), (20, .c (.v (.int .i64 i)))] (.vals u), [.b true 31 (s.sc A cap), .b true 41 (sesSC zS27 none 0 0), .b true 41 (sesSC s A4 i c4), .s A4 c4 i 59 2 ((s.env.take i).flatMap cVar)]⟩ := by
    intro d
    induction d with
    | zero =>
      intro i hd hi b0 b1 b2 A4 c4 u
      obtain rfl : i = s.env.length := by omega
      refine Hs.run0 300 (fun _ => by kernel_rfl) ?_
      refine Hs.condP ((s.env.length : Int) < (s.env.length : Int)) (by kernel_rfl) (fun h => by omega) (fun _ => ?_)
      refine Hs.run0 300 (fun _ => by kernel_rfl) ?_
      exact Hs.ret (v := s.val A4 c4) Tryz.func10 (by kernel_rfl) fun w' H => ⟨A4, c4, rfl, H.only, H.fresh (l := s.env) (cf := cVar) 3 rfl (by rw [List.take_length]; rfl)⟩
    | succ d ih =>
      intro i hd hi b0 b1 b2 A4 c4 u
      have hil : i < s.env.length := by omega
      obtain ⟨x, hx⟩ : ∃ x, s.env[i]? = some x := ⟨_, List.getElem?_eq_getElem hil⟩
      have hti : (s.env.take i).length = i := by rw [List.length_take]; omega
      obtain ⟨ab, aoff, hA, _, _⟩ := hr (by omega)
      have hih := fun b0 b1 b2 A4 c4 u => ih (i + 1) (by omega) (by omega) b0 b1 b2 A4 c4 u
      clear ih
      rw [hA] at hih hr ⊢
      refine Hs.run0 300 (fun _ => by kernel_rfl) ?_
      refine Hs.condP ((i : Int) < (s.env.length : Int)) (by kernel_rfl) (fun _ => ?_) (fun h => by omega)
      refine Hs.run0 300 (fun _ => by kernel_rfl) ?_
      refine Hs.idx (b := ab) (off := aoff) (len := s.env.length) (c := cap) (i := i) elemRv27 hil (by kernel_rfl) ?_
      refine Hs.ldx (cf := cVar) (size := 2) (E := 76) (b := ab) (off := aoff) (i := i) (l := s.env) (x := x) cVar_len (.g x.sc) (by kernel_rfl) (fun w' H => hr.only H.only) hx (by kernel_rfl) (by kernel_rfl) rfl (by kernel_rfl) ?_
      refine Hs.run2 300 (fun _ => by kernel_rfl) fun b4 b5 => ?_
      refine Hs.app (cf := cVar) (c := 1) (ty := 39) 3 elemVr (s.env.take i) [x] i 1 hti rfl cVar_one cVar_len (A := A4) (B := some ⟨b5, 0, none⟩) (cap := c4) (by kernel_rfl) (by kernel_rfl) (by kernel_rfl) (fun w' H => H.rdB (cf := cVar) (wr := true) (T := 59) (cs := x.sc) (gs := [x]) 5 (by kernel_rfl) rfl) (by unfold maxLen; omega) (by rw [by_vr]; omega) fun A6 c6 h6 => ?_
      refine Hs.run0 300 (fun _ => by kernel_rfl) ?_
      refine Hs.slot 20 (.c (.v (.int .i64 (i + 1 : Nat)))) rfl ((by kernel_rfl : _ = Value.int .i64 (IntKind.i64.wrap ((i : Int) + 1))).trans (wrap_nextJ (Nat.le_trans hle (by unfold maxLen; omega)))) ?_
      refine Hs.loop (by kernel_rfl) ?_
      have e1 : s.env.take i ++ [x] = s.env.take (i + 1) := by rw [List.take_add_one, hx]; rfl
      rw [e1]
      exact Hs.goto (loopAt Tryz.f10 0) [0, 1, 2, 3] [.b true 31 (s.sc (some ⟨ab, aoff, none⟩) cap), .b true 41 (sesSC zS27 none 0 0), .b true 41 (sesSC s A6 (i + 1) c6), .s A6 c6 (i + 1) 59 2 ((s.env.take (i + 1)).flatMap cVar)] [(2, .c (.p 1 0)), (3, .c (.p 2 0)), (18, .c (.v (.slice (some ⟨ab, aoff, none⟩) s.env.length cap))), (19, .c (.v (.int .i64 s.env.length))), (20, .c (.v (.int .i64 (i + 1 : Nat))))] (by kernel_rfl) (by decide) (by kernel_rfl) (by kernel_rfl) (fun _ => (by kernel_rfl)) (fun u => hih b0 b1 b2 A6 c6 u)
  refine Hs.enter Tryz.func10 [] [] [] [.g (s.sc A cap)] (Mem.start0 w) (by kernel_rfl) (by kernel_rfl) ?_
  refine Hs.run3 300 (fun _ => by kernel_rfl) fun b0 b1 b2 => ?_
  refine Hs.nilS 59 2 (by kernel_rfl) ?_ (by kernel_rfl)
  refine Hs.loop (by kernel_rfl) ?_
  exact Hs.goto (loopAt Tryz.f10 0) [0, 1, 2, 3] [.b true 31 (s.sc A cap), .b true 41 (sesSC zS27 none 0 0), .b true 41 (sesSC s none 0 0), .s none 0 0 59 2 ((s.env.take 0).flatMap cVar)] [(2, .c (.p 1 0)), (3, .c (.p 2 0)), (18, .c (.v (.slice A s.env.length cap))), (19, .c (.v (.int .i64 s.env.length))), (20, .c (.v (.int .i64 (0 : Nat))))] (by kernel_rfl) (by decide) (by kernel_rfl) (by kernel_rfl) (fun _ => (by kernel_rfl)) (fun u => J s.env.length 0 (by omega) (by omega) b0 b1 b2 none 0 u)
theorem from27_any27 (s : SS) (A : Option Addr) (cap : Nat) (w : World) (hr : RdX cVar w A s.env) (hle : s.env.length ≤ 1000000) : Calls Tryz.prog 17 #[s.val A cap] w (SesPost 76 s w) := by
  have J : ∀ (d i : Nat), s.env.length - i = d → i ≤ s.env.length → ∀ (b0 b1 b2 : Nat) (A4 : Option Addr) (c4 : Nat) (u : Nat → Value), Hs Tryz.prog 17 (SesPost 76 s w) (Tryz.f17).ntmps w [] [b0, b1, b2, 0] ⟨.no, loopAt Tryz.f17 0, pins [(2, .c (.p 1 0)), (3, .c (.p 2 0)), (18, .c (.v (.slice A s.env.length cap))), (19, .c (.v (.int .i64 s.env.length))), (20, .c (.v (.int .i64 i)))] (.vals u), [.b true 41 (s.sc A cap), .b true 49 (sesSC zS27 none 0 0), .b true 49 (sesSC s A4 i c4), .s A4 c4 i 76 2 ((s.env.take i).flatMap cVar)]⟩ := by
    intro d
    induction d with
    | zero =>
      intro i hd hi b0 b1 b2 A4 c4 u
      obtain rfl : i = s.env.length := by omega
      refine Hs.run0 300 (fun _ => by kernel_rfl) ?_
      refine Hs.condP ((s.env.length : Int) < (s.env.length : Int)) (by kernel_rfl) (fun h => by omega) (fun _ => ?_)
      refine Hs.run0 300 (fun _ => by kernel_rfl) ?_
      exact Hs.ret (v := s.val A4 c4) Tryz.func17 (by kernel_rfl) fun w' H => ⟨A4, c4, rfl, H.only, H.fresh (l := s.env) (cf := cVar) 3 rfl (by rw [List.take_length]; rfl)⟩
    | succ d ih =>
      intro i hd hi b0 b1 b2 A4 c4 u
      have hil : i < s.env.length := by omega
      obtain ⟨x, hx⟩ : ∃ x, s.env[i]? = some x := ⟨_, List.getElem?_eq_getElem hil⟩
      have hti : (s.env.take i).length = i := by rw [List.length_take]; omega
      obtain ⟨ab, aoff, hA, _, _⟩ := hr (by omega)
      have hih := fun b0 b1 b2 A4 c4 u => ih (i + 1) (by omega) (by omega) b0 b1 b2 A4 c4 u
      clear ih
      rw [hA] at hih hr ⊢
      refine Hs.run0 300 (fun _ => by kernel_rfl) ?_
      refine Hs.condP ((i : Int) < (s.env.length : Int)) (by kernel_rfl) (fun _ => ?_) (fun h => by omega)
      refine Hs.run0 300 (fun _ => by kernel_rfl) ?_
      refine Hs.idx (b := ab) (off := aoff) (len := s.env.length) (c := cap) (i := i) elemVr hil (by kernel_rfl) ?_
      refine Hs.ldx (cf := cVar) (size := 2) (E := 59) (b := ab) (off := aoff) (i := i) (l := s.env) (x := x) cVar_len (.g x.sc) (by kernel_rfl) (fun w' H => hr.only H.only) hx (by kernel_rfl) (by kernel_rfl) rfl (by kernel_rfl) ?_
      refine Hs.run2 300 (fun _ => by kernel_rfl) fun b4 b5 => ?_
      refine Hs.app (cf := cVar) (c := 1) (ty := 29) 3 elemRv27 (s.env.take i) [x] i 1 hti rfl cVar_one cVar_len (A := A4) (B := some ⟨b5, 0, none⟩) (cap := c4) (by kernel_rfl) (by kernel_rfl) (by kernel_rfl) (fun w' H => H.rdB (cf := cVar) (wr := true) (T := 76) (cs := x.sc) (gs := [x]) 5 (by kernel_rfl) rfl) (by unfold maxLen; omega) (by rw [by_rv27]; omega) fun A6 c6 h6 => ?_
      refine Hs.run0 300 (fun _ => by kernel_rfl) ?_
      refine Hs.slot 20 (.c (.v (.int .i64 (i + 1 : Nat)))) rfl ((by kernel_rfl : _ = Value.int .i64 (IntKind.i64.wrap ((i : Int) + 1))).trans (wrap_nextJ (Nat.le_trans hle (by unfold maxLen; omega)))) ?_
      refine Hs.loop (by kernel_rfl) ?_
      have e1 : s.env.take i ++ [x] = s.env.take (i + 1) := by rw [List.take_add_one, hx]; rfl
      rw [e1]
      exact Hs.goto (loopAt Tryz.f17 0) [0, 1, 2, 3] [.b true 41 (s.sc (some ⟨ab, aoff, none⟩) cap), .b true 49 (sesSC zS27 none 0 0), .b true 49 (sesSC s A6 (i + 1) c6), .s A6 c6 (i + 1) 76 2 ((s.env.take (i + 1)).flatMap cVar)] [(2, .c (.p 1 0)), (3, .c (.p 2 0)), (18, .c (.v (.slice (some ⟨ab, aoff, none⟩) s.env.length cap))), (19, .c (.v (.int .i64 s.env.length))), (20, .c (.v (.int .i64 (i + 1 : Nat))))] (by kernel_rfl) (by decide) (by kernel_rfl) (by kernel_rfl) (fun _ => (by kernel_rfl)) (fun u => hih b0 b1 b2 A6 c6 u)
  refine Hs.enter Tryz.func17 [] [] [] [.g (s.sc A cap)] (Mem.start0 w) (by kernel_rfl) (by kernel_rfl) ?_
  refine Hs.run3 300 (fun _ => by kernel_rfl) fun b0 b1 b2 => ?_
  refine Hs.nilS 76 2 (by kernel_rfl) ?_ (by kernel_rfl)
  refine Hs.loop (by kernel_rfl) ?_
  exact Hs.goto (loopAt Tryz.f17 0) [0, 1, 2, 3] [.b true 41 (s.sc A cap), .b true 49 (sesSC zS27 none 0 0), .b true 49 (sesSC s none 0 0), .s none 0 0 76 2 ((s.env.take 0).flatMap cVar)] [(2, .c (.p 1 0)), (3, .c (.p 2 0)), (18, .c (.v (.slice A s.env.length cap))), (19, .c (.v (.int .i64 s.env.length))), (20, .c (.v (.int .i64 (0 : Nat))))] (by kernel_rfl) (by decide) (by kernel_rfl) (by kernel_rfl) (fun _ => (by kernel_rfl)) (fun u => J s.env.length 0 (by omega) (by omega) b0 b1 b2 none 0 u)
theorem rsame_any27 (s : SS) (A B : Option Addr) (cap cb : Nat) (w : World) (hr : RdX cVar w A s.env) (hq : RdX cVar w B s.env) (hle : s.env.length ≤ 1000000) : Calls Tryz.prog 16 #[s.val A cap, s.val B cb] w fun e w' => e = .returned (.bool true) ∧ Only [] w w' := by
  have J : ∀ (d i : Nat), s.env.length - i = d → i ≤ s.env.length → ∀ (b0 b1 : Nat) (u : Nat → Value), Hs Tryz.prog 16 (fun e w' => e = .returned (.bool true) ∧ Only [] w w') (Tryz.f16).ntmps w [] [b0, b1] ⟨.no, loopAt Tryz.f16 0, pins [(2, .c (.p 0 0)), (3, .c (.p 1 0)), (50, .c (.v (.int .i64 s.env.length))), (51, .c (.v (.int .i64 i)))] (.vals u), [.b true 49 (s.sc A cap), .b true 49 (s.sc B cb)]⟩ := by
    intro d
    induction d with
    | zero =>
      intro i hd hi b0 b1 u
      obtain rfl : i = s.env.length := by omega
      refine Hs.run0 300 (fun _ => by kernel_rfl) ?_
      refine Hs.condP ((s.env.length : Int) < (s.env.length : Int)) (by kernel_rfl) (fun h => by omega) (fun _ => ?_)
      refine Hs.run0 300 (fun _ => by kernel_rfl) ?_
      exact Hs.ret (v := .bool true) Tryz.func16 (by kernel_rfl) fun w' H => ⟨rfl, H.only⟩
    | succ d ih =>
      intro i hd hi b0 b1 u
      have hil : i < s.env.length := by omega
      obtain ⟨x, hx⟩ : ∃ x, s.env[i]? = some x := ⟨_, List.getElem?_eq_getElem hil⟩
      obtain ⟨ab, aoff, hA, _, _⟩ := hr (by omega)
      obtain ⟨bb, boff, hB, _, _⟩ := hq (by omega)
      have hih := fun b0 b1 u => ih (i + 1) (by omega) (by omega) b0 b1 u
      clear ih
      rw [hA, hB] at hih
      rw [hA] at hr ⊢
      rw [hB] at hq ⊢
      refine Hs.run0 300 (fun _ => by kernel_rfl) ?_
      refine Hs.condP ((i : Int) < (s.env.length : Int)) (by kernel_rfl) (fun _ => ?_) (fun h => by omega)
      refine Hs.run0 300 (fun _ => by kernel_rfl) ?_
      refine Hs.any [0, 1] (by kernel_rfl) ?_
      refine Hs.run0 300 (fun _ => by kernel_rfl) ?_
      refine Hs.takeIdx (rd := [0, 1]) 3 elemRv27 (b := ab) (off := aoff) (c := cap) (len := s.env.length) (i := i) hil (by kernel_rfl) ?_
      refine Hs.takeIdx (rd := [0, 1]) 8 elemRv27 (b := bb) (off := boff) (c := cb) (len := s.env.length) (i := i) hil (by kernel_rfl) ?_
      refine Hs.branch2 4 9 (by kernel_rfl) ?_ ?_
      · refine Hs.ldx (cf := cVar) (size := 2) (E := 76) (b := ab) (off := aoff) (i := i) (l := s.env) (x := x) cVar_len (.g x.sc) (by kernel_rfl) (fun w' H => hr.only H.only) hx (by kernel_rfl) (by kernel_rfl) rfl (by kernel_rfl) ?_
        refine Hs.run0 300 (fun _ => by kernel_rfl) ?_
        refine Hs.ldx (cf := cVar) (size := 2) (E := 76) (b := bb) (off := boff) (i := i) (l := s.env) (x := x) cVar_len (.g x.sc) (by kernel_rfl) (fun w' H => hq.only H.only) hx (by kernel_rfl) (by kernel_rfl) rfl (by kernel_rfl) ?_
        refine Hs.sel1 10 (by kernel_rfl) ?_
        refine Hs.same (op := .neq) (T := 76) #[.string x.n, .string x.v] false (by kernel_rfl) (.inr ⟨rfl, rfl⟩) (by kernel_rfl) ?_
        refine Hs.run0 300 (fun _ => by kernel_rfl) ?_
        refine Hs.condF (by kernel_rfl) ?_
        refine Hs.run0 300 (fun _ => by kernel_rfl) ?_
        refine Hs.slot 51 (.c (.v (.int .i64 (i + 1 : Nat)))) rfl ((by kernel_rfl : _ = Value.int .i64 (IntKind.i64.wrap ((i : Int) + 1))).trans (wrap_nextJ (Nat.le_trans hle (by unfold maxLen; omega)))) ?_
        refine Hs.loop (by kernel_rfl) ?_
        exact Hs.goto (loopAt Tryz.f16 0) [0, 1] [.b true 49 (s.sc (some ⟨ab, aoff, none⟩) cap), .b true 49 (s.sc (some ⟨bb, boff, none⟩) cb)] [(2, .c (.p 0 0)), (3, .c (.p 1 0)), (50, .c (.v (.int .i64 s.env.length))), (51, .c (.v (.int .i64 (i + 1 : Nat))))] (by kernel_rfl) (by decide) (by kernel_rfl) (by kernel_rfl) (fun _ => (by kernel_rfl)) (fun u => hih b0 b1 u)
      · refine Hs.ldx (cf := cVar) (size := 2) (E := 76) (b := bb) (off := boff) (i := i) (l := s.env) (x := x) cVar_len (.g x.sc) (by kernel_rfl) (fun w' H => hq.only H.only) hx (by kernel_rfl) (by kernel_rfl) rfl (by kernel_rfl) ?_
        refine Hs.run0 300 (fun _ => by kernel_rfl) ?_
        refine Hs.ldx (cf := cVar) (size := 2) (E := 76) (b := ab) (off := aoff) (i := i) (l := s.env) (x := x) cVar_len (.g x.sc) (by kernel_rfl) (fun w' H => hr.only H.only) hx (by kernel_rfl) (by kernel_rfl) rfl (by kernel_rfl) ?_
        refine Hs.sel1 10 (by kernel_rfl) ?_
        refine Hs.same (op := .neq) (T := 76) #[.string x.n, .string x.v] false (by kernel_rfl) (.inr ⟨rfl, rfl⟩) (by kernel_rfl) ?_
        refine Hs.run0 300 (fun _ => by kernel_rfl) ?_
        refine Hs.condF (by kernel_rfl) ?_
        refine Hs.run0 300 (fun _ => by kernel_rfl) ?_
        refine Hs.slot 51 (.c (.v (.int .i64 (i + 1 : Nat)))) rfl ((by kernel_rfl : _ = Value.int .i64 (IntKind.i64.wrap ((i : Int) + 1))).trans (wrap_nextJ (Nat.le_trans hle (by unfold maxLen; omega)))) ?_
        refine Hs.loop (by kernel_rfl) ?_
        exact Hs.goto (loopAt Tryz.f16 0) [0, 1] [.b true 49 (s.sc (some ⟨ab, aoff, none⟩) cap), .b true 49 (s.sc (some ⟨bb, boff, none⟩) cb)] [(2, .c (.p 0 0)), (3, .c (.p 1 0)), (50, .c (.v (.int .i64 s.env.length))), (51, .c (.v (.int .i64 (i + 1 : Nat))))] (by kernel_rfl) (by decide) (by kernel_rfl) (by kernel_rfl) (fun _ => (by kernel_rfl)) (fun u => hih b0 b1 u)
  refine Hs.enter Tryz.func16 [] [] [] [.g (s.sc A cap), .g (s.sc B cb)] (Mem.start0 w) (by kernel_rfl) (by kernel_rfl) ?_
  refine Hs.run2 300 (fun _ => by kernel_rfl) fun b0 b1 => ?_
  refine Hs.bool 11 (s.pty != s.pty) (by kernel_rfl) (fun h => by simp at h) (fun _ => ?_)
  refine Hs.rung0 [5] 300 (fun _ => by kernel_rfl) ?_
  refine Hs.bool 18 (!(s.term.toList == s.term.toList)) (by kernel_rfl) (fun h => by simp at h) (fun _ => ?_)
  refine Hs.rung0 [5, 12] 9 (fun _ => by kernel_rfl) ?_
  refine Hs.same (op := .neq) (T := 24) #[.int .u32 s.c0, .int .u32 s.c1, .int .u32 s.c2, .int .u32 s.c3] false (by kernel_rfl) (.inr ⟨rfl, rfl⟩) (by kernel_rfl) ?_
  refine Hs.rung0 [12, 19] 11 (fun _ => by kernel_rfl) ?_
  refine Hs.sameA (op := .neq) (T := 28) (TM.cells s.t).toArray false (by kernel_rfl) (.inr ⟨rfl, rfl⟩) (by kernel_rfl) ?_
  refine Hs.rung0 [19, 26] 300 (fun _ => by kernel_rfl) ?_
  refine Hs.bool 39 (s.st != s.st) (by kernel_rfl) (fun h => by simp at h) (fun _ => ?_)
  refine Hs.rung0 [26, 33] 300 (fun _ => by kernel_rfl) ?_
  refine Hs.cond ((s.env.length : Int) != (s.env.length : Int)) (by kernel_rfl) (fun h => by simp at h) (fun _ => ?_)
  refine Hs.run0 300 (fun _ => by kernel_rfl) ?_
  refine Hs.loop (by kernel_rfl) ?_
  exact Hs.goto (loopAt Tryz.f16 0) [0, 1] [.b true 49 (s.sc A cap), .b true 49 (s.sc B cb)] [(2, .c (.p 0 0)), (3, .c (.p 1 0)), (50, .c (.v (.int .i64 s.env.length))), (51, .c (.v (.int .i64 (0 : Nat))))] (by kernel_rfl) (by decide) (by kernel_rfl) (by kernel_rfl) (fun _ => (by kernel_rfl)) (fun u => J s.env.length 0 (by omega) (by omega) b0 b1 u)
end Go.Proofs.YtdplnedpbkpgpaaGreatDoor

namespace Go.Proofs.YtdplnedpbkpgpaaGreatDoor
set_option linter.all false
open Go.RowKit

/-- What Encode hands on. -/
def EncPost (w : World) (m : RQ) : Ending → World → Prop := fun e w' => Only [] w w' ∧ ∃ v, e = .returned (.tuple #[.string (encName m), v, .int .i64 (encR m).1]) ∧ OwnB w' w.heap.size v (encR m).2
theorem fcells_set : ∀ (fs : List FD) (i : Nat) (f : FD) (x : Int), fs[i]? = some f → (fcells fs).set (i * 4) (.int .i64 x) = fcells (fs.set i { f with kind := x })
  | [], i, f, x, h => by simp at h
  | g :: fs, 0, f, x, h => by
    simp at h
    subst h
    rfl
  | g :: fs, i + 1, f, x, h => by
    simp at h
    have ih := fcells_set fs i f x h
    unfold fcells at ih ⊢
    rw [List.set_cons_succ, List.flatMap_cons, List.flatMap_cons, ← ih]
    have e : (i + 1) * 4 = g.cells.length + i * 4 := by simp [FD.cells]; omega
    rw [e, List.set_append_right _ _ (by omega)]
    congr 2
    omega
theorem ownF_set {w : World} {base g cap n : Nat} {fs : List FD} (hn : fs.length = n) (h : OwnF w base (.slice (some ⟨g, 0, none⟩) n cap) fs) (i : Nat) (f : FD) (x : Int) (hi : fs[i]? = some f) :
    OwnF (w.setCell ⟨g, i * 4, none⟩ (.int .i64 x)) base (.slice (some ⟨g, 0, none⟩) n cap) (fs.set i { f with kind := x }) := by
  subst hn
  have := (World.ownsRow.stored h (i * 4) (.int .i64 x)).1
  show World.ownsRow _ _ _ _ _ _ _
  rw [List.length_set, ← fcells_set fs i f x hi]
  exact this
theorem ownF_at {w : World} {base g cap n : Nat} {fs : List FD} (hn : fs.length = n) (h : OwnF w base (.slice (some ⟨g, 0, none⟩) n cap) fs) (i : Nat) (f : FD) (hi : fs[i]? = some f) :
    w.cell? ⟨g, i * 4, none⟩ = some (.int .i64 f.kind) ∧ w.frozen? ⟨g, i * 4, none⟩ = false := by
  subst hn
  have hl : i < fs.length := (List.getElem?_eq_some_iff.1 hi).1
  refine ⟨?_, World.ownsRow.frozenAt h _⟩
  rw [World.ownsRow.cellAt h (i * 4) (by omega), ← Nat.add_zero (i * 4), fcells_at fs i f 0 hi (by decide)]
  rfl
theorem ok_setC {w : World} {f : FD} {g i n cap : Nat} {u : Value} (h : FD.ok w f) (ho : f.off (.slice (some ⟨g, 0, none⟩) n cap)) : FD.ok (w.setCell ⟨g, i, none⟩ u) f := by
  have P : Only [g] w (w.setCell ⟨g, i, none⟩ u) := (Only.refl [g] w).setCell (p := ⟨g, i, none⟩) (.inl (by simp)) u
  exact { h with text := h.text.onlyL P (fun a ha h0 hx => ho.1 a ha h0 (by simp at hx; rw [hx]; rfl)), list := h.list.onlyL P (fun a ha h0 hx => ho.2 a ha h0 (by simp at hx; rw [hx]; rfl)) }
theorem set_mid {α : Type} (l m : List α) (k : Nat) (x : α) (hl : l.length = m.length) (hx : l[k]? = some x) : (l.take k ++ m.drop k).set k x = l.take (k + 1) ++ m.drop (k + 1) := by
  have hk : k < l.length := (List.getElem?_eq_some_iff.1 hx).1
  rw [List.set_append_right _ _ (by simp; omega)]
  have e : k - (l.take k).length = 0 := by simp; omega
  rw [e, List.drop_eq_getElem_cons (by omega : k < m.length), List.set_cons_zero, List.take_succ, hx]
  simp
/-- The fields with the first kinds set. -/
def MidP (m : RQ) (k i : Nat) : List PF := (partsR m k).take i ++ ((partsR m k).map (fun p => { p with kind := 0 })).drop i
theorem mid_step (m : RQ) (k i : Nat) (p : PF) (hp : (partsR m k)[i]? = some p) (fs : List FD) (f : FD) (hf : fs[i]? = some f) (h : fs.map FD.pf = MidP m k i) : (fs.set i { f with kind := p.kind }).map FD.pf = MidP m k (i + 1) := by
  have hil : i < (partsR m k).length := (List.getElem?_eq_some_iff.1 hp).1
  rw [List.map_set, h]
  unfold MidP
  have hfp : FD.pf { f with kind := p.kind } = p := by
    have e1 : (fs.map FD.pf)[i]? = some f.pf := by rw [List.getElem?_map, hf]; rfl
    rw [h] at e1
    unfold MidP at e1
    rw [List.getElem?_append_right (by simp; omega), List.getElem?_drop] at e1
    have e2 : i + (i - ((partsR m k).take i).length) = i := by simp; omega
    rw [e2, List.getElem?_map, hp] at e1
    have e3 : f.pf = { p with kind := 0 } := by simpa using e1.symm
    have n1 : f.n = p.n := congrArg PF.n e3
    have n2 : f.text = p.text := congrArg PF.text e3
    have n3 : f.list = p.list := congrArg PF.list e3
    unfold FD.pf
    dsimp only
    rw [n1, n2, n3]
  rw [hfp]
  exact set_mid _ _ i p (by simp) hp
theorem mid0 {m : RQ} {k : Nat} {fs : List FD} (h : fs.map FD.pf = (partsR m k).map (fun p => { p with kind := 0 })) : fs.map FD.pf = MidP m k 0 := by
  rw [h]
  rfl
theorem mid_end (m : RQ) (k n : Nat) (h : (partsR m k).length = n) : MidP m k n = partsR m k := by
  unfold MidP
  rw [List.take_of_length_le (by omega), List.drop_of_length_le (by simp; omega), List.append_nil]
theorem mem_set {α : Type} {l : List α} {i : Nat} {x : α} {P : α → Prop} (h : ∀ y ∈ l, P y) (hx : P x) : ∀ y ∈ l.set i x, P y := fun y hy => by
  rcases List.mem_or_eq_of_mem_set hy with h1 | rfl
  · exact h y h1
  · exact hx
theorem encR_none {m : RQ} (h : ¬ (1 ≤ m.kind ∧ m.kind ≤ 10)) : encR m = (8, []) := if_neg h
theorem encR_ask {m : RQ} {k : Nat} (h1 : 1 ≤ k) (h2 : k ≤ 10) (hk : m.kind = k) (h : askR m k ≠ 0) : encR m = (askR m k, []) := by
  unfold encR
  rw [hk, Int.toNat_natCast, if_pos (by omega), if_pos h]
theorem encR_go {m : RQ} {k : Nat} (h1 : 1 ≤ k) (h2 : k ≤ 10) (hk : m.kind = k) (h : askR m k = 0) : encR m = writeP (partsR m k) := by
  unfold encR
  rw [hk, Int.toNat_natCast, if_pos (by omega), if_neg (by simpa using h)]
theorem encName_bad {m : RQ} (h : (encR m).1 ≠ 0) : encName m = ⟨#[]⟩ := if_neg h
theorem encName_ok {m : RQ} {k : Nat} (hk : m.kind = k) (h : (encR m).1 = 0) : encName m = rname k := by
  unfold encName
  rw [if_pos h, hk, Int.toNat_natCast]
theorem encPost_bad (w w' : World) (m : RQ) (E : Int) (h : encR m = (E, [])) (hE : E ≠ 0) (P : Only [] w w') : EncPost w m (.returned (.tuple #[.string ⟨#[]⟩, .slice none 0 0, .int .i64 E])) w' := by
  unfold EncPost
  rw [encName_bad (by rw [h]; exact hE), h]
  exact ⟨P, _, rfl, ownB_nil _ _⟩
set_option maxRecDepth 100000 in
set_option maxHeartbeats 6400000 in
theorem rencode_any (m : RQ) (w : World) (hm : m.ok w) (hs : m.text.size ≤ 140737488355328) (hv : m.value.size ≤ 140737488355328) (hl : m.lang.size ≤ 140737488355328) : Calls Tryz.prog 20 #[m.val] w (EncPost w m) := by
  obtain ⟨w1, hw1⟩ : ∃ w1, w1 = w.alloc (.cells #[.int .i64 m.kind, .string m.text, .string m.value, .string m.lang, .int .u32 m.cols, .int .u32 m.rows, .int .u32 m.width, .int .u32 m.height, .slice m.mA m.modes.length m.mc, .bool m.on, .int .u32 m.code] 63) := ⟨_, rfl⟩
  have P1 : Only [] w w1 := by rw [hw1]; exact (Only.refl _ _).alloc _
  have K1 : Blk w1 w.heap.size 63 m.cells := by rw [hw1]; exact Blk.new w _ _
  unfold RQ.val
  by_cases hk : 1 ≤ m.kind ∧ m.kind ≤ 10
  · obtain ⟨k, hkk⟩ := Int.eq_ofNat_of_zero_le (show 0 ≤ m.kind by omega)
    have h1 : 1 ≤ k := by omega
    have h2 : k ≤ 10 := by omega
    have OF := rof_any k h1 h2 w1
    rw [← hkk] at OF
    obtain ⟨F1, hF1, cF1, C1⟩ := rget_any k h1 h2
    obtain ⟨F3, hF3, cF3, C3⟩ := ask_any k h1 h2
    have hen : askR m k = 0 → encR m = writeP (partsR m k) := encR_go h1 h2 hkk
    have hea : askR m k ≠ 0 → encR m = (askR m k, []) := encR_ask h1 h2 hkk
    have hnk : (encR m).1 = 0 → encName m = rname k := encName_ok hkk
    obtain ⟨n, hn⟩ : ∃ n, (rkinds k).length = n := ⟨_, rfl⟩
    obtain ⟨nm, hnm⟩ : ∃ nm, rname k = nm := ⟨_, rfl⟩
    obtain ⟨F2, hF2⟩ : ∃ F, rput k = F := ⟨_, rfl⟩
    obtain ⟨E0, hE0⟩ : ∃ E, askR m k = E := ⟨_, rfl⟩
    rw [hE0] at hen hea
    have hpk := parts_kinds m k h1 h2
    have hn10 : n ≤ 10 := by rw [← hn]; rcases k10 h1 h2 with rfl | rfl | rfl | rfl | rfl | rfl | rfl | rfl | rfl | rfl <;> decide
    have hpl : (partsR m k).length = n := by rw [← hn, ← hpk, List.length_map]
    replace hen := hide hen
    replace hea := hide hea
    replace hnk := hide hnk
    replace hpl := hide hpl
    replace hpk := hide hpk
    replace hkk := hide hkk
    replace C1 := hide C1
    replace C3 := hide C3
    replace hk := hide hk
    go_enter Tryz.func20, Tryz.ntmps20
    go_wp2_with fail
    rw [← hw1]
    replace hw1 := hide hw1
    go_call OF as e w2 ⟨P2, KA, rfl, R2⟩
    clear OF
    unfold ruleV rfn
    rw [hn, hF1, hF2, hF3, hnm]
    replace hn := hide hn
    replace hF1 := hide hF1
    replace hF2 := hide hF2
    replace hF3 := hide hF3
    replace hnm := hide hnm
    have K2 := K1.only P2 (by simp)
    have Q2 : Only [] w w2 := P1.trans P2 (by simp)
    have B3 : Blk (w2.alloc (.cells #[.string nm, .slice KA n n, .func (Fn.func F1) #[] #[], .func (Fn.func F2) #[] #[], .func (Fn.func F3) #[] #[]] 114)) w2.heap.size 114 [.string nm, .slice KA n n, .func (Fn.func F1) #[] #[], .func (Fn.func F2) #[] #[], .func (Fn.func F3) #[] #[]] := Blk.new _ _ _
    have P3 : Only [] w2 (w2.alloc (.cells #[.string nm, .slice KA n n, .func (Fn.func F1) #[] #[], .func (Fn.func F2) #[] #[], .func (Fn.func F3) #[] #[]] 114)) := (Only.refl _ _).alloc _
    have z3 : (w2.alloc (.cells #[.string nm, .slice KA n n, .func (Fn.func F1) #[] #[], .func (Fn.func F2) #[] #[], .func (Fn.func F3) #[] #[]] 114)).heap.size = w2.heap.size + 1 := by simp
    obtain ⟨w3, hw3⟩ : ∃ w3, w3 = w2.alloc (.cells #[.string nm, .slice KA n n, .func (Fn.func F1) #[] #[], .func (Fn.func F2) #[] #[], .func (Fn.func F3) #[] #[]] 114) := ⟨_, rfl⟩
    rw [← hw3] at B3 P3 z3
    have B4 := B3.alloc (.cells #[.int .i64 m.kind, .string m.text, .string m.value, .string m.lang, .int .u32 m.cols, .int .u32 m.rows, .int .u32 m.width, .int .u32 m.height, .slice m.mA m.modes.length m.mc, .bool m.on, .int .u32 m.code] 119)
    have P4 : Only [] w3 (w3.alloc (.cells #[.int .i64 m.kind, .string m.text, .string m.value, .string m.lang, .int .u32 m.cols, .int .u32 m.rows, .int .u32 m.width, .int .u32 m.height, .slice m.mA m.modes.length m.mc, .bool m.on, .int .u32 m.code] 119)) := (Only.refl _ _).alloc _
    have K4 : Blk (w3.alloc (.cells #[.int .i64 m.kind, .string m.text, .string m.value, .string m.lang, .int .u32 m.cols, .int .u32 m.rows, .int .u32 m.width, .int .u32 m.height, .slice m.mA m.modes.length m.mc, .bool m.on, .int .u32 m.code] 119)) w3.heap.size 119 m.cells := Blk.new _ _ _
    have K3 := K2.only P3 (by simp)
    rw [z3] at K4
    obtain ⟨w4, hw4⟩ : ∃ w4, w4 = w3.alloc (.cells #[.int .i64 m.kind, .string m.text, .string m.value, .string m.lang, .int .u32 m.cols, .int .u32 m.rows, .int .u32 m.width, .int .u32 m.height, .slice m.mA m.modes.length m.mc, .bool m.on, .int .u32 m.code] 119) := ⟨_, rfl⟩
    rw [← hw4] at B4 P4 K4
    have Q4 : Only [] w w4 := (Q2.trans P3 (by simp)).trans P4 (by simp)
    have A4 := C3.out w4 m _ K4 (hm.only Q4)
    rw [hE0] at A4
    replace hE0 := hide hE0
    have x0 := B4.cell 0
    have x1 := B4.cell 1
    have x2 := B4.cell 2
    have x4 := B4.cell 4
    simp only [List.getElem?_cons_zero, List.getElem?_cons_succ] at x0 x1 x2 x4
    have hlt2 := K2.lt
    have hne : ¬ w.heap.size = w2.heap.size := by omega
    have c0 : w2.cell? ⟨w.heap.size, 0, none⟩ = some (.int .i64 m.kind) := K2.cell 0
    have c1 : w2.cell? ⟨w.heap.size, 1, none⟩ = some (.string m.text) := K2.cell 1
    have c2 : w2.cell? ⟨w.heap.size, 2, none⟩ = some (.string m.value) := K2.cell 2
    have c3 : w2.cell? ⟨w.heap.size, 3, none⟩ = some (.string m.lang) := K2.cell 3
    have c4 : w2.cell? ⟨w.heap.size, 4, none⟩ = some (.int .u32 m.cols) := K2.cell 4
    have c5 : w2.cell? ⟨w.heap.size, 5, none⟩ = some (.int .u32 m.rows) := K2.cell 5
    have c6 : w2.cell? ⟨w.heap.size, 6, none⟩ = some (.int .u32 m.width) := K2.cell 6
    have c7 : w2.cell? ⟨w.heap.size, 7, none⟩ = some (.int .u32 m.height) := K2.cell 7
    have c8 : w2.cell? ⟨w.heap.size, 8, none⟩ = some (.slice m.mA m.modes.length m.mc) := K2.cell 8
    have c9 : w2.cell? ⟨w.heap.size, 9, none⟩ = some (.bool m.on) := K2.cell 9
    have c10 : w2.cell? ⟨w.heap.size, 10, none⟩ = some (.int .u32 m.code) := K2.cell 10
    replace z3 := hide z3
    go_wp2_with fail
    rw [← hw3, ← hw4]
    go_call A4 as e w5 ⟨rfl, P5⟩
    clear A4
    clear c0 c1 c2 c3 c4 c5 c6 c7 c8 c9 c10
    have B5 := B4.only P5 (by simp)
    have K5 := K4.only P5 (by simp)
    have Q5 : Only [] w w5 := Q4.trans P5 (by simp)
    replace hw3 := hide hw3
    replace hw4 := hide hw4
    have hR2 : RdI w5 KA (rkinds k) := ((R2.only P3).only P4).only P5
    clear x0 x1 x2 x4
    have x0 := B5.cell 0
    have x1 := B5.cell 1
    have x2 := B5.cell 2
    simp only [List.getElem?_cons_zero, List.getElem?_cons_succ] at x0 x1 x2
    by_cases hE : E0 = 0
    · have hew := hen.out hE
      replace hew := hide hew
      subst hE
      have A5 := C1.out w5 m _ K5 (hm.only Q5) hs hv hl
      go_wp2_with fail
      go_call A5 as e w6 ⟨P6, v, fs, rfl, V6, hp, M6, N6⟩
      clear A5
      have B6 := B5.only P6 (by simp)
      have Q6 : Only [] w w6 := Q5.trans P6 (by simp)
      have hR6 := hR2.only P6
      have hfl : fs.length = n := by
        have := congrArg List.length hp
        rw [List.length_map, List.length_map, hpl.out] at this
        exact this
      obtain ⟨A, cap, rfl, hc, hcm, _⟩ := V6.form
      rw [hfl] at V6 hc M6 ⊢
      have M0 := mid0 hp
      have zq := Q5.size
      have hbk := B5.lt
      clear x0 x1 x2
      go_wp2_with fail
      go_loopw [37] (fun ii wr => ∃ (i : Nat) (gs : List FD), i ≤ n ∧ ii = .int .i64 i ∧ Hid (gs.length = n) ∧ Hid (gs.map FD.pf = MidP m k i) ∧ OwnF wr w5.heap.size (.slice A n cap) gs ∧ (∀ f ∈ gs, FD.ok wr f ∧ f.off (.slice A n cap)) ∧ (∀ f ∈ gs, U32 f.n) ∧ Only [] w5 wr) (fun ii _ => n - (intOf ii).toNat)
      case atStart => exact ⟨0, fs, by omega, rfl, hide hfl, hide M0, V6, M6, N6, P6⟩
      case round =>
        obtain ⟨wo, rfl⟩ : ∃ wo : World, wo = wr := ⟨_, rfl⟩
        obtain ⟨i, gs, hin, rfl, hgl, hmp, V, M, N, O⟩ := hrel
        have Bo := B5.only O (by simp)
        have x0 := Bo.cell 0
        have x1 := Bo.cell 1
        simp only [List.getElem?_cons_zero, List.getElem?_cons_succ] at x0 x1
        by_cases hlt : i < n
        · obtain ⟨kb, koff, x, rfl, hkb, hx, cx⟩ := RdG.at (hR2.only O) i (by have := hn.out; omega)
          obtain ⟨A', cap', e1, _, _, hA⟩ := V.form
          obtain ⟨ga, hga, hga1, hga2, _⟩ := hA (by have := hgl.out; omega)
          obtain rfl : A = some ⟨ga, 0, none⟩ := by rw [← hga]; exact (Value.slice.inj e1).1
          obtain ⟨f, hf⟩ : ∃ f, gs[i]? = some f := ⟨_, List.getElem?_eq_getElem (by have := hgl.out; omega)⟩
          obtain ⟨p, hpp⟩ : ∃ p, (partsR m k)[i]? = some p := ⟨_, List.getElem?_eq_getElem (by have := hpl.out; omega)⟩
          have hpx : p.kind = x := by
            rw [← hpk.out, List.getElem?_map, hpp] at hx
            simpa using hx
          obtain ⟨cf, zf⟩ := ownF_at hgl.out V i f hf
          have V' := ownF_set hgl.out V i f x hf
          have hst := mid_step m k i p hpp gs f hf hmp.out
          rw [hpx] at hst
          have hgl' : (gs.set i { f with kind := x }).length = n := by rw [List.length_set]; exact hgl.out
          have M' : ∀ y ∈ gs.set i { f with kind := x }, FD.ok (wo.setCell ⟨ga, i * 4, none⟩ (.int .i64 x)) y ∧ y.off (.slice (some ⟨ga, 0, none⟩) n cap) := by
            have hfm := M f (List.mem_of_getElem? hf)
            refine mem_set (fun y hy => ⟨ok_setC (M y hy).1 (M y hy).2, (M y hy).2⟩) ⟨?_, hfm.2⟩
            exact ok_setC (FD.ok.with hfm.1 x f.n) hfm.2
          have N' : ∀ y ∈ gs.set i { f with kind := x }, U32 y.n := mem_set N (N f (List.mem_of_getElem? hf))
          have O' : Only [] w5 (wo.setCell ⟨ga, i * 4, none⟩ (.int .i64 x)) := O.setCell (p := ⟨ga, i * 4, none⟩) (.inr hga1) _
          replace hf := hide hf
          replace hpp := hide hpp
          replace hpx := hide hpx
          replace hx := hide hx
          replace hst := hide hst
          replace hgl' := hide hgl'
          replace M' := hide M'
          replace N' := hide N'
          clear M N hA e1 hga
          go_wp2_with fail
          go_roundw
          case rel => exact ⟨i + 1, _, by omega, by go_num, hgl', hst, V', M'.out, N'.out, O'⟩
          case measure => simp [intOf]; omega
        · obtain rfl : i = n := by omega
          have hmap : gs.map FD.pf = partsR m k := by
            rw [hmp.out]
            exact mid_end m k i hpl.out
          have RF := V.rdF (fun f hf => ⟨(M f hf).1, N f hf⟩)
          have WR := write_any wo A gs cap RF (by have := hgl.out; omega)
          rw [hmap, ← hew.out, hgl.out] at WR
          obtain ⟨E, hE⟩ : ∃ E, (encR m).1 = E := ⟨_, rfl⟩
          obtain ⟨l, hl2⟩ : ∃ l, (encR m).2 = l := ⟨_, rfl⟩
          have hpair : encR m = (E, l) := by rw [← hE, ← hl2]
          rw [hpair] at WR
          have Qo : Only [] w wo := Q5.trans O (by simp)
          have zo := Qo.size
          replace hmap := hide hmap
          replace hpair := hide hpair
          replace hE := hide hE
          replace hl2 := hide hl2
          clear M N
          go_wp2_with fail
          go_call WR as e w9 ⟨P9, v9, rfl, V9⟩
          clear WR
          have Q9 : Only [] w w9 := Qo.trans P9 (by simp)
          have B9 := Bo.only P9 (by simp)
          have x0 := B9.cell 0
          simp only [List.getElem?_cons_zero, List.getElem?_cons_succ] at x0
          dsimp only
          by_cases hz : E = 0
          · have hfin : EncPost w m (.returned (.tuple #[.string nm, v9, .int .i64 0])) w9 := by
              unfold EncPost
              rw [hE.out, hl2.out, hnk.out (by rw [hE.out]; exact hz), hnm.out, hz]
              exact ⟨Q9, v9, rfl, V9.mono zo⟩
            subst hz
            replace hfin := hide hfin
            go_wp2_with fail
            go_ret3
            exact hfin.out
          · have hzb : (E != 0) = true := by simpa using hz
            have hl0 : l = [] := by rw [← hl2.out]; exact encR_bad (by rw [hE.out]; exact hz)
            have hfin : EncPost w m (.returned (.tuple #[.string ⟨#[]⟩, .slice none 0 0, .int .i64 E])) w9 := encPost_bad w w9 m E (by rw [hpair.out, hl0]) hz Q9
            replace hfin := hide hfin
            replace hl0 := hide hl0
            replace hz := hide hz
            go_wp2_with fail
            go_ret3
            exact hfin.out
    · have hEb : (E0 != 0) = true := by simpa using hE
      have hfin : EncPost w m (.returned (.tuple #[.string ⟨#[]⟩, .slice none 0 0, .int .i64 E0])) w5 := encPost_bad w w5 m E0 (hea.out hE) hE Q5
      replace hfin := hide hfin
      replace hE := hide hE
      go_wp2_with fail
      go_ret3
      exact hfin.out
  · have OF := rof_none m.kind hk w1
    have hfin : ∀ w', Only [] w w' → EncPost w m (.returned (.tuple #[.string ⟨#[]⟩, .slice none 0 0, .int .i64 8])) w' := fun w' P => encPost_bad w w' m 8 (encR_none hk) (by decide) P
    replace hfin := hide hfin
    replace hk := hide hk
    go_enter Tryz.func20, Tryz.ntmps20
    go_wp2_with fail
    rw [← hw1]
    replace hw1 := hide hw1
    go_call OF as e w2 ⟨P2, rfl⟩
    go_wp2_with fail
    go_ret3
    exact hfin.out _ ((P1.trans P2 (by simp)).alloc _)
end Go.Proofs.YtdplnedpbkpgpaaGreatDoor

namespace Go.Proofs.YtdplnedpbkpgpaaGreatDoor
set_option linter.all false
set_option maxRecDepth 100000
open Go.RowKit
theorem flat8 (l : List Int) : l.flatMap cu8 = l.map (.int .u8) := by
  induction l with
  | nil => rfl
  | cons x l ih => rw [List.flatMap_cons, ih]; rfl
theorem rdX_rd {w : World} {A : Option Addr} {l : List Int} (h : RdX cu8 w A l) : Rd w A l := fun h0 => by
  obtain ⟨b, off, e, hlt, hc⟩ := h h0
  exact ⟨b, off, e, hlt, fun i v hi => hc i _ (by rw [flat8, List.getElem?_map, hi]; rfl)⟩
theorem rencode_s {m : RQ} (w : World) (hm : m.ok w) (hs : m.text.size ≤ 140737488355328) (hv : m.value.size ≤ 140737488355328) (hl : m.lang.size ≤ 140737488355328) {l : List Int} {nm : ByteArray} (e1 : encR m = (0, l)) (e2 : encName m = nm) : Calls Tryz.prog 20 #[m.val] w fun e w' => ∃ A cap, e = .returned (.tuple #[.string nm, .slice A l.length cap, .int .i64 0]) ∧ Only [] w w' ∧ OwnX cu8 5 1 w' w.heap.size (.slice A l.length cap) l := by
  refine (rencode_any m w hm hs hv hl).mono fun e w' h => ?_
  obtain ⟨O, v, he, hO⟩ := h
  rw [e1, e2] at he
  rw [e1] at hO
  have hX : OwnX cu8 5 1 w' w.heap.size v l := by
    unfold OwnX
    rw [flat8]
    exact hO
  obtain ⟨A, cap, e3, _⟩ := hX.form
  subst e3
  exact ⟨A, cap, he, O, hX⟩
def exeR : RQ := { zeroR with kind := 4, text := ⟨#[99, 97, 116, 32, 120]⟩ }
def sigR : RQ := { zeroR with kind := 8, text := ⟨#[73, 78, 84]⟩ }
theorem exeR_enc : encR exeR = (0, [0, 0, 0, 5, 99, 97, 116, 32, 120]) := by decide +kernel
theorem sigR_enc : encR sigR = (0, [0, 0, 0, 3, 73, 78, 84]) := by decide +kernel
theorem exeR_name : encName exeR = ⟨#[101, 120, 101, 99]⟩ := by
  unfold encName
  rw [exeR_enc]
  rfl
theorem sigR_name : encName sigR = ⟨#[115, 105, 103, 110, 97, 108]⟩ := by
  unfold encName
  rw [sigR_enc]
  rfl
theorem exR_ok27 (w : World) (m : RQ) (hm : m = exeR ∨ m = sigR) : m.ok w := by
  rcases hm with rfl | rfl
  · exact { zeroR_ok w with text := by decide, nums := by simp [exeR, zeroR, U32, RNums] }
  · exact { zeroR_ok w with text := by decide, nums := by simp [sigR, zeroR, U32, RNums] }
theorem exeR_dec {x : RQ} {E : Int} (h : DecR ⟨#[101, 120, 101, 99]⟩ [0, 0, 0, 5, 99, 97, 116, 32, 120] x E) : E = 0 ∧ x.kind = 4 ∧ x.text = ⟨#[99, 97, 116, 32, 120]⟩ := by
  have := rback_law (m := exeR) (x := x) (E := E) (by simp [exeR, zeroR, U32, RNums]) (by rw [exeR_enc]) (by rw [exeR_enc, exeR_name]; exact h)
  obtain ⟨e, hs, _⟩ := this
  exact ⟨e, hs.kind.symm.trans rfl, hs.text.symm.trans rfl⟩
theorem sigR_dec {x : RQ} {E : Int} (h : DecR ⟨#[115, 105, 103, 110, 97, 108]⟩ [0, 0, 0, 3, 73, 78, 84] x E) : E = 0 ∧ x.kind = 8 ∧ x.text = ⟨#[73, 78, 84]⟩ := by
  have := rback_law (m := sigR) (x := x) (E := E) (by simp [sigR, zeroR, U32, RNums]) (by rw [sigR_enc]) (by rw [sigR_enc, sigR_name]; exact h)
  obtain ⟨e, hs, _⟩ := this
  exact ⟨e, hs.kind.symm.trans rfl, hs.text.symm.trans rfl⟩
def zS : SS := ⟨false, ⟨#[]⟩, 0, 0, 0, 0, zeroT, [], false⟩
def zS1 : SS := { zS with st := true }
def psC : List PR := [⟨⟨#[99, 97, 116]⟩, none, 0, 0⟩, ⟨⟨#[115, 104]⟩, none, 0, 0⟩]
theorem exA27 {x : RQ} (hk : x.kind = 4) (ht : x.text = ⟨#[99, 97, 116, 32, 120]⟩) : askM zS x 0 psC = (zS1, ⟨true, 1, 0, 0, 0, 0, 0, 0⟩) := by
  unfold askM
  rw [if_neg (by simp), hk]
  show startS zS (cutS x.text) psC = _
  rw [ht]
  kernel_rfl
theorem exB27 {x : RQ} (hk : x.kind = 8) (ht : x.text = ⟨#[73, 78, 84]⟩) : askM zS x 0 psC = (zS, noA) := by
  unfold askM
  rw [if_neg (by simp), hk]
  show sigM zS x = _
  rfl
theorem exC27 {x : RQ} (hk : x.kind = 8) (ht : x.text = ⟨#[73, 78, 84]⟩) : askM zS1 x 0 psC = (zS1, ⟨true, 3, 0, 2, 0, 0, 0, 0⟩) := by
  unfold askM
  rw [if_neg (by simp), hk]
  show sigM zS1 x = _
  unfold sigM
  rw [ht]
  kernel_rfl
def busT : ByteArray := ⟨#[66, 85, 83, 64, 112, 97, 114, 108, 111, 117, 114]⟩
theorem end2007 : endR 2007 = { zeroR with kind := 10, text := busT, on := true } := by kernel_rfl
theorem end3 : endR 3 = { zeroR with kind := 9, code := 3 } := by kernel_rfl
theorem end1002 : endR 1002 = { zeroR with kind := 10, text := ⟨#[73, 78, 84]⟩ } := by kernel_rfl
end Go.Proofs.YtdplnedpbkpgpaaGreatDoor

namespace Go.Proofs.YtdplnedpbkpgpaaGreatDoor
set_option linter.all false
set_option maxRecDepth 100000
open Go.RowKit
/-- What an example asks: a session of no variables. -/
theorem askX {s : SS} {z : SS × AC} {nam : ByteArray} {l : List Int} (hs : s.env = []) (hz : z.1.env = []) (hl : ∀ x ∈ l, 0 ≤ x ∧ x < 256) (h0 : 0 < l.length) (hn : l.length ≤ 100) (hdec : ∀ x E, DecR nam l x E → E = 0 ∧ askM s x 0 psC = z) (A : Option Addr) (cap : Nat) (B : Option Addr) (c : Nat) (pb : Nat) (w : World) (i0 : Int) (h00 : w.cell? ⟨0, 0, none⟩ = some (.int .i64 i0)) (hB : RdX cu8 w B l) (hc1 : l.length ≤ c) (hc2 : c ≤ maxLen) (hp : RdX cPr w (some ⟨pb, 0, none⟩) psC) :
    Calls Tryz.prog 11 #[s.val A cap, .string nam, .slice B l.length c, .slice (some ⟨pb, 0, none⟩) 2 2] w fun e w' => ∃ x : Option Addr × Nat, e = .returned (.tuple #[z.1.val x.1 x.2, z.2.val]) ∧ Only [] w w' ∧ True := by
  refine (ask_any27 s A cap nam B c l (some ⟨pb, 0, none⟩) 2 psC w i0 h00 (fun h => by rw [hs] at h; exact absurd h (by simp)) (by rw [hs]; exact Nat.zero_le _) (rdX_rd hB) hl (by omega) hc1 hc2 (fun a ha => by
    obtain ⟨b, off, e, hlt, _⟩ := hB h0
    rw [ha] at e
    injection e with e
    rw [e]
    exact hlt) hp (by decide)).mono fun e w' h => ?_
  obtain ⟨O, m, E, A', cap', hD, he, _⟩ := h
  obtain ⟨rfl, hm⟩ := hdec m E hD
  rw [hm] at he
  exact ⟨(A', cap'), he, O, trivial⟩
theorem alive27_any (w : World) (i0 : Int) (h00 : w.cell? ⟨0, 0, none⟩ = some (.int .i64 i0)) : Calls Tryz.prog 8 #[] w fun e w' => e = .returned (.bool true) ∧ Only [] w w' := by
  refine Hs.enter Tryz.func8 [] [] [] [] (Mem.start0 w) (by kernel_rfl) (by kernel_rfl) ?_
  refine Hs.run1 300 (fun _ => by kernel_rfl) fun b0 => ?_
  refine Hs.callS (cf := cu8) (E := 5) (size := 1) (fun A cap => .tuple #[.string ⟨#[101, 120, 101, 99]⟩, .slice A 9 cap, .int .i64 0]) [0, 0, 0, 5, 99, 97, 116, 32, 120] 9 rfl (fun w' H => rencode_s w' (exR_ok27 w' exeR (.inl rfl)) (by decide) (by decide) (by decide) exeR_enc exeR_name) (by kernel_rfl) (by kernel_rfl) fun B1 c1 h1 h2 => ?_
  refine Hs.run0 300 (fun _ => by kernel_rfl) ?_
  refine Hs.callS (cf := cu8) (E := 5) (size := 1) (fun A cap => .tuple #[.string ⟨#[115, 105, 103, 110, 97, 108]⟩, .slice A 7 cap, .int .i64 0]) [0, 0, 0, 3, 73, 78, 84] 7 rfl (fun w' H => rencode_s w' (exR_ok27 w' sigR (.inr rfl)) (by decide) (by decide) (by decide) sigR_enc sigR_name) (by kernel_rfl) (by kernel_rfl) fun B2 c2 h3 h4 => ?_
  refine Hs.run0 300 (fun _ => by kernel_rfl) ?_
  refine Hs.callX (v := fun x : Option Addr × Nat => .tuple #[SS.val zS1 x.1 x.2, AC.val ⟨true, 1, 0, 0, 0, 0, 0, 0⟩]) (Q := fun _ => True) (fun w' H => askX (s := zS) (z := (zS1, ⟨true, 1, 0, 0, 0, 0, 0, 0⟩)) rfl rfl (by decide) (by decide) (by decide) (fun x E h => ⟨(exeR_dec h).1, exA27 (exeR_dec h).2.1 (exeR_dec h).2.2⟩) none 0 B1 c1 b0 w' i0 (cell_step H.only h00) (H.rdX 1 (A := B1) (cap := c1) (E := 5) (size := 1) (l := [0, 0, 0, 5, 99, 97, 116, 32, 120]) rfl (by kernel_rfl)) h1 h2 (H.rdB (gs := psC) 0 (wr := true) (T := 81) (cs := psC.flatMap PR.sc) (by kernel_rfl) rfl)) (by kernel_rfl) fun x1 _ => ?_
  obtain ⟨A1, p1⟩ := x1
  refine Hs.run2 300 (fun _ => by kernel_rfl) fun b3 b4 => ?_
  refine Hs.callX (v := fun x : Option Addr × Nat => .tuple #[SS.val zS x.1 x.2, AC.val noA]) (Q := fun _ => True) (fun w' H => askX (s := zS) (z := (zS, noA)) rfl rfl (by decide) (by decide) (by decide) (fun x E h => ⟨(sigR_dec h).1, exB27 (sigR_dec h).2.1 (sigR_dec h).2.2⟩) none 0 B2 c2 b0 w' i0 (cell_step H.only h00) (H.rdX 2 (A := B2) (cap := c2) (E := 5) (size := 1) (l := [0, 0, 0, 3, 73, 78, 84]) rfl (by kernel_rfl)) h3 h4 (H.rdB (gs := psC) 0 (wr := true) (T := 81) (cs := psC.flatMap PR.sc) (by kernel_rfl) rfl)) (by kernel_rfl) fun x2 _ => ?_
  obtain ⟨A2, p2⟩ := x2
  refine Hs.run2 300 (fun _ => by kernel_rfl) fun b5 b6 => ?_
  refine Hs.callX (v := fun x : Option Addr × Nat => .tuple #[SS.val zS1 x.1 x.2, AC.val ⟨true, 3, 0, 2, 0, 0, 0, 0⟩]) (Q := fun _ => True) (fun w' H => askX (s := zS1) (z := (zS1, ⟨true, 3, 0, 2, 0, 0, 0, 0⟩)) rfl rfl (by decide) (by decide) (by decide) (fun x E h => ⟨(sigR_dec h).1, exC27 (sigR_dec h).2.1 (sigR_dec h).2.2⟩) A1 p1 B2 c2 b0 w' i0 (cell_step H.only h00) (H.rdX 2 (A := B2) (cap := c2) (E := 5) (size := 1) (l := [0, 0, 0, 3, 73, 78, 84]) rfl (by kernel_rfl)) h3 h4 (H.rdB (gs := psC) 0 (wr := true) (T := 81) (cs := psC.flatMap PR.sc) (by kernel_rfl) rfl)) (by kernel_rfl) fun x3 _ => ?_
  obtain ⟨A3, p3⟩ := x3
  refine Hs.run2 300 (fun _ => by kernel_rfl) fun b7 b8 => ?_
  refine Hs.callV (v := RQ.val { zeroR with kind := 10, text := busT, on := true }) (fun w' H => by have := end_any27 2007 w'; rw [end2007] at this; exact this) (by kernel_rfl) ?_
  refine Hs.run1 300 (fun _ => by kernel_rfl) fun b9 => ?_
  refine Hs.rung0 [2, 7, 12, 16, 21, 26, 31, 36, 41, 46] 300 (fun _ => by kernel_rfl) ?_
  refine Hs.callV (v := RQ.val { zeroR with kind := 9, code := 3 }) (fun w' H => by have := end_any27 3 w'; rw [end3] at this; exact this) (by kernel_rfl) ?_
  refine Hs.rung0 [2, 7, 12, 16, 21, 26, 31, 36, 41, 46] 300 (fun _ => by kernel_rfl) ?_
  refine Hs.callV (v := RQ.val { zeroR with kind := 10, text := ⟨#[73, 78, 84]⟩ }) (fun w' H => by have := end_any27 1002 w'; rw [end1002] at this; exact this) (by kernel_rfl) ?_
  refine Hs.rung0 [2, 7, 12, 16, 21, 26, 31, 36, 41, 46] 300 (fun _ => by kernel_rfl) ?_
  exact Hs.ret (v := .bool true) Tryz.func8 (by kernel_rfl) fun w' H => ⟨rfl, H.only⟩
end Go.Proofs.YtdplnedpbkpgpaaGreatDoor

namespace Go.Proofs.YtdplnedpbkpgpaaGreatDoor
set_option linter.all false
set_option maxRecDepth 100000
open Go.RowKit
theorem rencode_g {m : RQ} (w : World) (hm : m.ok w) (hs : m.text.size ≤ 140737488355328) (hv : m.value.size ≤ 140737488355328) (hl : m.lang.size ≤ 140737488355328) {E : Int} {l : List Int} {nm : ByteArray} (e1 : encR m = (E, l)) (e2 : encName m = nm) : Calls Tryz.prog 20 #[m.val] w fun e w' => ∃ A cap, e = .returned (.tuple #[.string nm, .slice A l.length cap, .int .i64 E]) ∧ Only [] w w' ∧ OwnX cu8 5 1 w' w.heap.size (.slice A l.length cap) l := by
  refine (rencode_any m w hm hs hv hl).mono fun e w' h => ?_
  obtain ⟨O, v, he, hO⟩ := h
  rw [e1, e2] at he
  rw [e1] at hO
  have hX : OwnX cu8 5 1 w' w.heap.size v l := by
    unfold OwnX
    rw [flat8]
    exact hO
  obtain ⟨A, cap, e3, _⟩ := hX.form
  subst e3
  exact ⟨A, cap, he, O, hX⟩
def sig8 (tx : ByteArray) : RQ := { zeroR with kind := 8, text := tx }
theorem sig8_ok {tx : ByteArray} (h : tx.size ≤ 10000) (w : World) : (sig8 tx).ok w :=
  { zeroR_ok w with text := Nat.le_trans h (by decide), nums := by simp [sig8, zeroR, U32, RNums] }
theorem sig8_dec {tx nm : ByteArray} {l : List Int} {x : RQ} {E : Int} (e1 : encR (sig8 tx) = (0, l)) (e2 : encName (sig8 tx) = nm) (h : DecR nm l x E) : E = 0 ∧ x.kind = 8 ∧ x.text = tx ∧ l.length ≤ 33792 := by
  have := rback_law (m := sig8 tx) (x := x) (E := E) (by simp [sig8, zeroR, U32, RNums]) (by rw [e1]) (by rw [e1, e2]; exact h)
  obtain ⟨e, hs, hl⟩ := this
  rw [e1] at hl
  exact ⟨e, hs.kind.symm.trans rfl, hs.text.symm.trans rfl, hl⟩
def sigT (s : SS) (tx : ByteArray) : AC := if s.st then (if numB tx then (if wireS (numS tx) then ⟨true, 3, 0, numS tx, 0, 0, 0, 0⟩ else noA) else noA) else noA
theorem sig8_ask {s : SS} {tx : ByteArray} {x : RQ} {ps : List PR} (hk : x.kind = 8) (ht : x.text = tx) : askM s x 0 ps = (s, sigT s tx) := by
  unfold askM
  rw [if_neg (by simp), hk]
  show sigM s x = _
  unfold sigM sigT
  rw [ht]
  repeat' split
  all_goals rfl
/-- A session that is asked what is known to be made of it. -/
theorem askS {s : SS} {z : SS × AC} {nam : ByteArray} {l : List Int} {ps : List PR} {n : Nat} (hn : ps.length = n) (hdec : ∀ x E, DecR nam l x E → E = 0 ∧ askM s x 0 ps = z) (A : Option Addr) (cap : Nat) (B : Option Addr) (c : Nat) (pA : Option Addr) (pc : Nat) (w : World) (i0 : Int) (h00 : w.cell? ⟨0, 0, none⟩ = some (.int .i64 i0)) (hs : RdX cVar w A s.env) (hse : s.env.length ≤ 1000000) (hB : RdX cu8 w B l) (hl : ∀ x ∈ l, 0 ≤ x ∧ x < 256) (hln : l.length ≤ 140737488355000) (hc1 : l.length ≤ c) (hc2 : c ≤ maxLen) (hp : RdX cPr w pA ps) (hpl : ps.length ≤ maxLen) (hal : ∀ a, B = some a → a.block < w.heap.size) :
    Calls Tryz.prog 11 #[s.val A cap, .string nam, .slice B l.length c, .slice pA n pc] w fun e w' => ∃ A cap, e = .returned (.tuple #[z.1.val A cap, z.2.val]) ∧ Only [] w w' ∧ OwnX cVar 59 2 w' w.heap.size (.slice A z.1.env.length cap) z.1.env := by
  subst hn
  refine (ask_any27 s A cap nam B c l pA pc ps w i0 h00 hs hse (rdX_rd hB) hl hln hc1 hc2 hal hp hpl).mono fun e w' h => ?_
  obtain ⟨O, m, E, A', cap', hD, he, hO⟩ := h
  obtain ⟨rfl, hm⟩ := hdec m E hD
  rw [hm] at he hO
  exact ⟨A', cap', he, O, hO⟩
theorem ownX_lt {w w0 : World} {L β : List Nat} {hp : List HB} {E size : Nat} (H : Mem w0 L β hp w) (k : Nat) {A : Option Addr} {cap n : Nat} {vs : List Value} (hk : hp[k]? = some (.s A cap n E size vs)) : ∀ a, A = some a → a.block < w.heap.size := fun a ha => by
  subst ha
  exact HB.lies_lt (H.lies k _ hk) rfl
theorem parts_inb27 {w : World} {m : RQ} (ok : m.ok w) (k : Nat) (h1 : 1 ≤ k) (h2 : k ≤ 10) : InB ((partsR m k).flatMap bytesP) := by
  have hT : ∀ s, InB (pT s).text := fun s => u8i_range _
  have hN : InB ([] : List Int) := fun x hx => by simp at hx
  have hp : ∀ p ∈ partsR m k, InB p.text := by
    rcases k10 h1 h2 with rfl | rfl | rfl | rfl | rfl | rfl | rfl | rfl | rfl | rfl <;> intro p hp <;> simp only [partsR, List.mem_cons, List.not_mem_nil, or_false] at hp
    · rcases hp with rfl | rfl | rfl | rfl | rfl | rfl
      · exact hT _
      · exact hN
      · exact hN
      · exact hN
      · exact hN
      · exact ok.bytes
    · rcases hp with rfl | rfl
      · exact hT _
      · exact hT _
    · subst hp; exact hT _
    · subst hp; exact hT _
    · rcases hp with rfl | rfl | rfl | rfl <;> exact hN
    · subst hp; exact hN
    · subst hp; exact hT _
    · subst hp; exact hN
    · rcases hp with rfl | rfl | rfl | rfl
      · exact hT _
      · exact hN
      · exact hT _
      · exact hT _
  intro x hx
  obtain ⟨p, hpm, hxp⟩ := List.mem_flatMap.1 hx
  exact bytesP_range (hp p hpm) x hxp
theorem encR_inb {w : World} {m : RQ} (ok : m.ok w) (hz : (encR m).1 = 0) : InB (encR m).2 := by
  obtain ⟨k, h1, h2, hk, ha, ho, he, hnm⟩ := encR_ok hz
  rw [he]
  exact parts_inb27 ok k h1 h2
theorem encR_len (m : RQ) : (encR m).2.length ≤ 33792 := by
  unfold encR
  split
  · split
    · simp
    · exact writeP_len
  · simp
set_option maxHeartbeats 8000000 in
theorem signals_walk27 (s : SS) (A : Option Addr) (cap : Nat) (tx : ByteArray) (w : World) (i0 : Int) (h00 : w.cell? ⟨0, 0, none⟩ = some (.int .i64 i0)) (hr : RdX cVar w A s.env) : Calls Tryz.prog 6 #[s.val A cap, .string tx] w fun e w' => e = .returned (.bool true) ∧ Only [] w w' := by
  obtain ⟨E, l, hE⟩ : ∃ E l, encR (sig8 tx) = (E, l) := ⟨_, _, rfl⟩
  obtain ⟨nam, hnam⟩ : ∃ nam, encName (sig8 tx) = nam := ⟨_, rfl⟩
  refine Hs.enter Tryz.func6 [] [] [] [.g (s.sc A cap), .c (.v (.string tx))] (Mem.start0 w) (by kernel_rfl) (by kernel_rfl) ?_
  refine Hs.run1 300 (fun _ => by kernel_rfl) fun b0 => ?_
  refine Hs.callV (fun w' H => alive27_any w' i0 (cell_step H.only h00)) (by kernel_rfl) ?_
  refine Hs.run0 300 (fun _ => by kernel_rfl) ?_
  refine Hs.condF (by kernel_rfl) ?_
  refine Hs.run0 300 (fun _ => by kernel_rfl) ?_
  refine Hs.bool 19 (decide ((s.env.length : Int) > 100)) (by kernel_rfl) (fun h1 => ?_) (fun h1 => ?_)
  · refine Hs.rung0 [4] 300 (fun _ => by kernel_rfl) ?_
    refine Hs.condT (by kernel_rfl) ?_
    refine Hs.run0 300 (fun _ => by kernel_rfl) ?_
    exact Hs.ret (v := .bool true) Tryz.func6 (by kernel_rfl) fun w' H => ⟨rfl, H.only⟩
  replace h1 : s.env.length ≤ 100 := by simp at h1; omega
  refine Hs.rung0 [4] 300 (fun _ => by kernel_rfl) ?_
  refine Hs.condP ((tx.size : Int) > 10000) (by kernel_rfl) (fun h2 => ?_) (fun h2 => ?_)
  · refine Hs.run0 300 (fun _ => by kernel_rfl) ?_
    exact Hs.ret (v := .bool true) Tryz.func6 (by kernel_rfl) fun w' H => ⟨rfl, H.only⟩
  replace h2 : tx.size ≤ 10000 := by omega
  refine Hs.run0 300 (fun _ => by kernel_rfl) ?_
  refine Hs.callS (cf := cu8) (E := 5) (size := 1) (fun A cap => .tuple #[.string nam, .slice A l.length cap, .int .i64 E]) l l.length rfl (fun w' H => rencode_g w' (sig8_ok h2 w') (Nat.le_trans h2 (by decide)) (Nat.zero_le _) (Nat.zero_le _) hE hnam) (by kernel_rfl) (by kernel_rfl) fun B1 c1 h3 h4 => ?_
  refine Hs.run0 300 (fun _ => by kernel_rfl) ?_
  refine Hs.cond (E != 0) (by kernel_rfl) (fun h5 => ?_) (fun h5 => ?_)
  · refine Hs.run0 300 (fun _ => by kernel_rfl) ?_
    exact Hs.ret (v := .bool true) Tryz.func6 (by kernel_rfl) fun w' H => ⟨rfl, H.only⟩
  obtain rfl : E = 0 := by simpa using h5
  have hdec : ∀ x E, DecR nam l x E → E = 0 ∧ askM s x 0 [] = (s, sigT s tx) := fun x E h => by
    obtain ⟨h1, h2, h3, _⟩ := sig8_dec hE hnam h
    exact ⟨h1, sig8_ask h2 h3⟩
  have hll := encR_len (sig8 tx)
  have hrng : InB (encR (sig8 tx)).2 := encR_inb (sig8_ok h2 w) (by rw [hE])
  rw [hE] at hll hrng
  replace hll : l.length ≤ 33792 := hll
  replace hrng : ∀ x ∈ l, 0 ≤ x ∧ x < 256 := hrng
  generalize hz : sigT s tx = z at hdec
  refine Hs.run0 300 (fun _ => by kernel_rfl) ?_
  refine Hs.callS (cf := cVar) (E := 59) (size := 2) (fun A cap => s.val A cap) s.env s.env.length rfl (fun w' H => to27_any27 s A cap w' (hr.only H.only) (by omega)) (by kernel_rfl) (by kernel_rfl) fun A2 c2 h6 h7 => ?_
  refine Hs.run1 300 (fun _ => by kernel_rfl) fun b3 => ?_
  refine Hs.callS (cf := cVar) (E := 59) (size := 2) (fun A cap => .tuple #[s.val A cap, z.val]) s.env s.env.length rfl (fun w' H => askS (ps := []) (z := (s, z)) rfl hdec A2 c2 B1 c1 none 0 w' i0 (cell_step H.only h00) (H.rdX 2 rfl (by kernel_rfl : _ = some (HB.s A2 c2 s.env.length 59 2 (s.env.flatMap cVar)))) (by omega) (H.rdX 1 rfl (by kernel_rfl : _ = some (HB.s B1 c1 l.length 5 1 (l.flatMap cu8)))) hrng (by omega) h3 h4 rdX_nil (by decide) (ownX_lt H 1 (by kernel_rfl : _ = some (HB.s B1 c1 l.length 5 1 (l.flatMap cu8))))) (by kernel_rfl) (by kernel_rfl) fun A3 c3 h8 h9 => ?_
  refine Hs.run2 300 (fun _ => by kernel_rfl) fun b5 b6 => ?_
  refine Hs.any [3, 5] (by kernel_rfl) ?_
  refine Hs.run0 300 (fun _ => by kernel_rfl) ?_
  refine Hs.callS (cf := cVar) (E := 76) (size := 2) (fun A cap => s.val A cap) s.env s.env.length rfl (fun w' H => from27_any27 s A2 c2 w' (H.rdX 2 rfl (by kernel_rfl : _ = some (HB.s A2 c2 s.env.length 59 2 (s.env.flatMap cVar)))) (by omega)) (by kernel_rfl) (by kernel_rfl) fun A4 c4 _ _ => ?_
  refine Hs.run0 300 (fun _ => by kernel_rfl) ?_
  refine Hs.callS (cf := cVar) (E := 76) (size := 2) (fun A cap => s.val A cap) s.env s.env.length rfl (fun w' H => from27_any27 s A3 c3 w' (H.rdX 4 rfl (by kernel_rfl : _ = some (HB.s A3 c3 s.env.length 59 2 (s.env.flatMap cVar)))) (by omega)) (by kernel_rfl) (by kernel_rfl) fun A5 c5 _ _ => ?_
  refine Hs.run0 300 (fun _ => by kernel_rfl) ?_
  refine Hs.callV (fun w' H => rsame_any27 s A4 A5 c4 c5 w' (H.rdX 7 rfl (by kernel_rfl : _ = some (HB.s A4 c4 s.env.length 76 2 (s.env.flatMap cVar)))) (H.rdX 8 rfl (by kernel_rfl : _ = some (HB.s A5 c5 s.env.length 76 2 (s.env.flatMap cVar)))) (by omega)) (by kernel_rfl) ?_
  refine Hs.run0 300 (fun _ => by kernel_rfl) ?_
  refine Hs.condF (by kernel_rfl) ?_
  refine Hs.run0 300 (fun _ => by kernel_rfl) ?_
  refine Hs.callV (fun w' H => number_any18 tx w') (by kernel_rfl) ?_
  refine Hs.run0 300 (fun _ => by kernel_rfl) ?_
  refine Hs.bool 55 s.st (by kernel_rfl) (fun h8 => ?_) (fun h8 => ?_)
  · refine Hs.rung0 [2] 300 (fun _ => by kernel_rfl) ?_
    refine Hs.bool 58 (numB tx) (by kernel_rfl) (fun h9 => ?_) (fun h9 => ?_)
    · refine Hs.rung0 [2, 5] 300 (fun _ => by kernel_rfl) ?_
      refine Hs.callV (fun w' H => wire_any18 (numS tx) w') (by kernel_rfl) ?_
      refine Hs.rung0 [2, 5] 300 (fun _ => by kernel_rfl) ?_
      refine Hs.cond (wireS (numS tx)) (by kernel_rfl) (fun h10 => ?_) (fun h10 => ?_)
      · obtain rfl : z = ⟨true, 3, 0, numS tx, 0, 0, 0, 0⟩ := by rw [← hz]; unfold sigT; rw [if_pos h8, if_pos h9, if_pos h10]
        refine Hs.rung0 [2, 7] 300 (fun _ => by kernel_rfl) ?_
        exact Hs.ret (v := .bool (numS tx == numS tx)) Tryz.func6 (by kernel_rfl) fun w' H => ⟨by simp, H.only⟩
      · obtain rfl : z = noA := by rw [← hz]; unfold sigT; rw [if_pos h8, if_pos h9, if_neg (by rw [h10]; decide)]
        refine Hs.run0 5 (fun _ => by kernel_rfl) ?_
        refine Hs.same (op := .eql) (T := 44) #[.bool false, .int .i64 0, .int .i64 0, .int .i64 0, .int .u32 0, .int .u32 0, .int .u32 0, .int .u32 0] true (by kernel_rfl) (.inl ⟨rfl, rfl⟩) (by kernel_rfl) ?_
        refine Hs.run0 300 (fun _ => by kernel_rfl) ?_
        exact Hs.ret (v := .bool true) Tryz.func6 (by kernel_rfl) fun w' H => ⟨rfl, H.only⟩
    · refine Hs.rung0 [2, 5] 300 (fun _ => by kernel_rfl) ?_
      refine Hs.condF (by kernel_rfl) ?_
      obtain rfl : z = noA := by rw [← hz]; unfold sigT; rw [if_pos h8, if_neg (by rw [h9]; decide)]
      refine Hs.run0 5 (fun _ => by kernel_rfl) ?_
      refine Hs.same (op := .eql) (T := 44) #[.bool false, .int .i64 0, .int .i64 0, .int .i64 0, .int .u32 0, .int .u32 0, .int .u32 0, .int .u32 0] true (by kernel_rfl) (.inl ⟨rfl, rfl⟩) (by kernel_rfl) ?_
      refine Hs.run0 300 (fun _ => by kernel_rfl) ?_
      exact Hs.ret (v := .bool true) Tryz.func6 (by kernel_rfl) fun w' H => ⟨rfl, H.only⟩
  · refine Hs.rung0 [2, 5] 300 (fun _ => by kernel_rfl) ?_
    refine Hs.condF (by kernel_rfl) ?_
    obtain rfl : z = noA := by rw [← hz]; unfold sigT; rw [if_neg (by rw [h8]; decide)]
    refine Hs.run0 5 (fun _ => by kernel_rfl) ?_
    refine Hs.same (op := .eql) (T := 44) #[.bool false, .int .i64 0, .int .i64 0, .int .i64 0, .int .u32 0, .int .u32 0, .int .u32 0, .int .u32 0] true (by kernel_rfl) (.inl ⟨rfl, rfl⟩) (by kernel_rfl) ?_
    refine Hs.run0 300 (fun _ => by kernel_rfl) ?_
    exact Hs.ret (v := .bool true) Tryz.func6 (by kernel_rfl) fun w' H => ⟨rfl, H.only⟩
end Go.Proofs.YtdplnedpbkpgpaaGreatDoor

namespace Go.Proofs.YtdplnedpbkpgpaaGreatDoor
set_option linter.all false
open Go.ChangeShapes Go.WideShapes Go.ChangeAt Go.RowKit Go.Deep

section
variable {H : Type} {enc : TypeId × Value → H} {P : Program} {w : World} {base : Nat} {spare : Nat → Bool} {held : Bool}
theorem agg_int {k : IntKind} {n : Nat} {t : TypeId} {c : Value} {y : DataW H × List MemPlace} (ht : P.underlying t = some (.int k)) (h : DataW.trod enc P w base spare held n t [c] = some y) : ∃ a, c = .int k a ∧ (Lit.int k a).wf = true := by
  obtain ⟨a, e, _, wa⟩ := DataW.trod_int ht h
  exact ⟨a, by simpa using e, wa⟩
def FieldsAt (enc : TypeId × Value → H) (P : Program) (w : World) (base : Nat) (spare : Nat → Bool) (held : Bool) (n : Nat) (fs : Array Field) (l : List Value) : Prop :=
  ∀ (j : Nat) (f : Field), fs[j]? = some f → ∃ y, DataW.trod enc P w base spare held n f.type ((l.drop f.offset).take (P.cellsOf f.type)) = some y
theorem trod_fields {n : Nat} {t : TypeId} {fs : Array Field} {l : List Value} {y : DataW H × List MemPlace} (hs : P.underlying t = some (.struct fs)) (h : DataW.trod enc P w base spare held n t l = some y) : ∃ n', FieldsAt enc P w base spare held n' fs l := by
  obtain ⟨ys, n', _, _, _, hyl, hg⟩ := DataW.trod_struct hs h
  refine ⟨n', fun j f hj => ?_⟩
  have hjl : j < fs.size := (Array.getElem?_eq_some_iff.1 hj).1
  exact ⟨ys[j]'(by omega), (hg j f hj).trans (List.getElem?_eq_getElem (by omega))⟩
theorem FieldsAt.at_ {n : Nat} {fs : Array Field} {l l' : List Value} (h : FieldsAt enc P w base spare held n fs l) (j : Nat) (T : TypeId) (off k : Nat) (f : Field) (hj : fs[j]? = some f) (hT : f.type = T) (ho : f.offset = off) (hk : P.cellsOf T = k) (hl : (l.drop off).take k = l') :
    ∃ y, DataW.trod enc P w base spare held n T l' = some y := by
  obtain ⟨y, hy⟩ := h j f hj
  rw [hT, ho, hk, hl] at hy
  exact ⟨y, hy⟩
/-- A struct that is handed in: its cells, its fields. -/
theorem open_struct {r : Reach} {b0 : Nat} {t : TypeId} {fs : Array Field} {v : Value} {d : DataW H} {p : List MemPlace} {k : Nat} (hs : P.underlying t = some (.struct fs)) (hC : P.cellsOf t = k)
    (hv : Value.okWide P w r b0 t v) (h : DataW.Trod enc P w base spare held t v d p) : ∃ (l : List Value) (n : Nat), v = .agg l.toArray ∧ l.length = k ∧ FieldsAt enc P w base spare held n fs l := by
  obtain ⟨cs, rfl, hsz⟩ := okWide_struct hs hv
  obtain ⟨l⟩ := cs
  obtain ⟨fuel, hf⟩ := h
  obtain ⟨n, hn⟩ := trod_fields hs hf
  have hcs : (Value.agg ⟨l⟩).cells.toList = l := by simp [Value.cells]
  rw [hcs] at hn
  exact ⟨l, n, rfl, by simpa using hsz.trans hC, hn⟩
theorem aggP_ints {k : IntKind} {n : Nat} {t e : TypeId} {c : Value} {y : DataW H × List MemPlace} (ht : P.underlying t = some (.slice e)) (he : P.underlying e = some (.int k)) (hc : P.cellsOf e = 1) (h : DataW.trod enc P w base spare held n t [c] = some y) :
    ∃ A len cap zs, c = .slice A len cap ∧ len ≤ cap ∧ cap ≤ maxLen ∧ Ints k w A len zs := by
  rcases Go.ChangeShapes.open_ints ht he hc h with ⟨hcs, _⟩ | ⟨a, l, c', zs, hcs, _, hl, hm, hz, _, hcell, hwz⟩
  · simp at hcs
    subst hcs
    exact ⟨none, 0, 0, [], rfl, Nat.le_refl _, Nat.zero_le _, rfl, Nat.zero_le _, by simp, by simp⟩
  · simp at hcs
    subst hcs
    have hlz : l ≤ zs.length := by split at hz <;> omega
    refine ⟨some a, l, c', zs.take l, rfl, hl, hm, by simp; omega, by omega, fun n hn => hwz n (List.mem_of_mem_take hn), fun h0 => ?_⟩
    obtain ⟨b, off, rfl, hc'⟩ := ints_at hcell (by omega)
    refine ⟨b, off, rfl, World.block_lt_of_cell? w _ (hc' 0 (by omega)), fun i hi => ?_⟩
    rw [hc' i (by omega)]
    simp [List.getD_eq_getElem?_getD, List.getElem?_take, hi]
theorem agg_strP {n : Nat} {t : TypeId} {c : Value} {y : DataW H × List MemPlace} (ht : P.underlying t = some .string) (h : DataW.trod enc P w base spare held n t [c] = some y) : ∃ s : ByteArray, c = .string s ∧ s.size ≤ maxLen := by
  obtain ⟨s, h1, _, h3⟩ := DataW.trod_string ht h
  exact ⟨s, by simpa using h1, h3⟩
theorem agg_boolP {n : Nat} {t : TypeId} {c : Value} {y : DataW H × List MemPlace} (ht : P.underlying t = some .bool) (h : DataW.trod enc P w base spare held n t [c] = some y) : ∃ b : Bool, c = .bool b := by
  obtain ⟨b, h1, _⟩ := DataW.trod_bool ht h
  exact ⟨b, by simpa using h1⟩
/-- Bytes in a field. -/
theorem agg_bytes {n : Nat} {t e : TypeId} {c : Value} {y : DataW H × List MemPlace} (ht : P.underlying t = some (.slice e)) (he : P.underlying e = some (.int .u8)) (hc : P.cellsOf e = 1) (h : DataW.trod enc P w base spare held n t [c] = some y) :
    ∃ (A : Option Addr) (cap : Nat) (zs : List Int), c = .slice A zs.length cap ∧ zs.length ≤ cap ∧ cap ≤ maxLen ∧ RdG (.int .u8) w A zs ∧ ∀ x ∈ zs, 0 ≤ x ∧ x < 256 := by
  obtain ⟨A, len, cap, zs, rfl, hlc, hcm, hz1, hz2, hz3, hz4⟩ := aggP_ints ht he hc h
  subst hz1
  refine ⟨A, cap, zs, rfl, hlc, hcm, fun h0 => ?_, fun x hx => ?_⟩
  · obtain ⟨b', off', e, hlt, hcc⟩ := hz4 (by omega)
    refine ⟨b', off', e, hlt, fun j v hj => ?_⟩
    have hj' : j < zs.length := (List.getElem?_eq_some_iff.1 hj).1
    rw [hcc j (by omega), List.getD_eq_getElem?_getD, hj]
    rfl
  · have := hz3 x hx
    have := wf_u8 this
    omega

theorem list_of {α : Type} {p : Nat → α → Prop} : ∀ n, (∀ i, i < n → ∃ x, p i x) → ∃ l : List α, l.length = n ∧ ∀ i x, l[i]? = some x → p i x
  | 0, _ => ⟨[], rfl, fun i x h => by simp at h⟩
  | n + 1, h => by
    obtain ⟨l, hl, hp⟩ := list_of n fun i hi => h i (by omega)
    obtain ⟨x, hx⟩ := h n (by omega)
    refine ⟨l ++ [x], by simp [hl], fun i y hy => ?_⟩
    rcases Nat.lt_or_ge i l.length with h1 | h1
    · rw [List.getElem?_append_left h1] at hy; exact hp i y hy
    · rw [List.getElem?_append_right h1] at hy
      have h2 : i - l.length = 0 := by
        rcases Nat.eq_zero_or_pos (i - l.length) with h2 | h2
        · exact h2
        · rw [List.getElem?_eq_none (by simp; omega)] at hy; cases hy
      rw [h2] at hy
      simp at hy
      subst hy
      have e : i = n := by omega
      rw [e]; exact hx
/-- A slice whose elements are opened by hel. -/
theorem open_rdX {α : Type} {cf : α → List Value} {ok : α → Prop} {t e : TypeId} {size : Nat} {v : Value} {d : DataW H} {p : List MemPlace} {r : Reach} {b0 : Nat} (ht : P.underlying t = some (.slice e)) (hC : P.cellsOf e = size) (h0 : 0 < size) (hcl : ∀ x, (cf x).length = size)
    (hel : ∀ (n : Nat) (l : List Value) (y : DataW H × List MemPlace), l.length = size → DataW.trod enc P w base spare held n e l = some y → ∃ x : α, l = cf x ∧ ok x)
    (hv : Value.okWide P w r b0 t v) (h : DataW.Trod enc P w base spare held t v d p) : ∃ (A : Option Addr) (l : List α) (cap : Nat), v = .slice A l.length cap ∧ l.length ≤ cap ∧ cap ≤ maxLen ∧ RdX cf w A l ∧ ∀ x ∈ l, ok x := by
  obtain ⟨a0, len, cap, rfl⟩ := okWide_slice ht hv
  obtain ⟨fuel, hf⟩ := h
  rcases open_slice ht hf with ⟨hcs, _⟩ | ⟨a, l, c, m, n, D, Pl, hcs, _, hlc, hm, hmm, _, hi⟩
  · simp [Value.cells] at hcs
    obtain ⟨rfl, rfl, rfl⟩ := hcs
    exact ⟨none, [], 0, rfl, Nat.le_refl _, Nat.zero_le _, rdX_nil, fun x hx => by cases hx⟩
  · simp [Value.cells] at hcs
    obtain ⟨rfl, rfl, rfl⟩ := hcs
    have hlm : len ≤ m := by rw [hmm]; split <;> omega
    obtain ⟨xs, hxl, hx⟩ := list_of (p := fun i (x : α) => ok x ∧ ∀ j u, (cf x)[j]? = some u → w.cell? (a.add (i * size + j)) = some u) len (fun i hi1 => by
      obtain ⟨cs', hc, ht'⟩ := hi i (by omega)
      obtain ⟨_, hcl', hat⟩ := World.cells?_some hc
      rw [hC] at hcl' hat
      obtain ⟨x, rfl, hok⟩ := hel _ _ _ hcl' ht'
      refine ⟨x, hok, fun j u hu => ?_⟩
      have hj : j < size := by have := (List.getElem?_eq_some_iff.1 hu).1; omega
      rw [← Go.Deep.add_add]
      exact (hat j hj).trans hu)
    subst hxl
    refine ⟨some a, xs, cap, rfl, hlc, hm, fun hl0 => ?_, fun x hx1 => ?_⟩
    · have h00 : ∃ u, w.cell? (a.add 0) = some u := by
        have hx0 := hx 0 (xs[0]'hl0) (List.getElem?_eq_getElem hl0)
        have h1 : (cf (xs[0]'hl0))[0]? = some ((cf (xs[0]'hl0))[0]'(by rw [hcl]; exact h0)) := List.getElem?_eq_getElem _
        exact ⟨_, by simpa using hx0.2 0 _ h1⟩
      obtain ⟨u0, hu0⟩ := h00
      have hadd0 : a.add 0 = a := by unfold Addr.add; simp
      rw [hadd0] at hu0
      have hs : a.spot = none := by
        unfold World.cell? at hu0
        split at hu0
        · split at hu0
          · cases hu0
          · rename_i h1; simpa using h1
        · cases hu0
      obtain ⟨b, off, sp⟩ := a
      simp at hs
      subst hs
      refine ⟨b, off, rfl, World.block_lt_of_cell? w _ hu0, fun j u hu => ?_⟩
      have key : ∀ (l : List α) (j : Nat) (u : Value), (l.flatMap cf)[j]? = some u → ∃ i x k, l[i]? = some x ∧ (cf x)[k]? = some u ∧ j = i * size + k := by
        intro l
        induction l with
        | nil => intro j u h; simp at h
        | cons y ys ih =>
          intro j u h
          rw [List.flatMap_cons] at h
          rcases Nat.lt_or_ge j (cf y).length with h1 | h1
          · rw [List.getElem?_append_left h1] at h
            exact ⟨0, y, j, rfl, h, by simp⟩
          · rw [List.getElem?_append_right h1] at h
            obtain ⟨i, x, k, h2, h3, h4⟩ := ih _ _ h
            refine ⟨i + 1, x, k, by simpa using h2, h3, ?_⟩
            rw [hcl] at h1 h4
            rw [Nat.succ_mul]; omega
      obtain ⟨i, x, k, h2, h3, rfl⟩ := key xs j u hu
      have := (hx i x h2).2 k u h3
      rw [Addr.add_mid] at this
      exact this
    · obtain ⟨i, hi1⟩ := List.mem_iff_getElem?.1 hx1
      exact (hx i x hi1).1
end
end Go.Proofs.YtdplnedpbkpgpaaGreatDoor

namespace Go.Proofs.YtdplnedpbkpgpaaGreatDoor
set_option linter.all false
open Go.ChangeShapes Go.WideShapes Go.ChangeAt Go.RowKit Go.Deep

/-- What the walk of a law is handed: the arguments read as data, and how much each takes. -/
def LawWalkS (P : Program) (f : FuncId) (fn : Func) : Prop :=
  ∀ (H : Type) (enc : TypeId × Value → H) (W : World) (base : Nat) (args : Array Value) (ds : List (DataW H)) (ps : List MemPlace),
    (∀ (j : Nat) t v, fn.params[j]? = some t → args[j]? = some v → Value.okWide P W .any base t v) →
    DataW.TrodAll enc P W 0 (fun _ => true) true fn.params.toList args.toList ds ps →
    (DataW.weightsEach P fn.params.toList ds).all (· ≤ reachBytes) = true →
    Calls P f args W fun e W' => e = .returned (.bool true) ∧ Below W.heap.size W W'

theorem law_liftedS {C : Checked} {tb : TypeId} (own : ownKnob C.prog.godebug = none) (laidOut : laidOutB C.prog = true) (hb : C.prog.underlying tb = some .bool) (f : FuncId) (fn : Func) (s : ChangeSpec)
    (hfn : C.prog.funcs[f]? = some fn) (noInit : C.prog.inits.idxOf? f = none) (hres : fn.resultTypes = #[tb])
    (hread : readsAll C.prog fn.params.toList = true) (hv : s.vars = [])
    (hs : ∀ (H : Type) (ds : List (DataW H)), ds.length = fn.params.size → s.fn H ds = { results := [.lit (.bool true)], args := ds })
    (walk : LawWalkS C.prog f fn) (os : Os) (started : os.Started) (H : Type) (enc : TypeId × Value → H)
    (witness : ∃ (w : World) (tape : Tape) (i : Input), w.os = os ∧ (w.forCall tape i).Shaped C.prog ∧ i.vars = [] ∧ Input.okWide C.prog (w.forCall tape i) .any w.heap.size f i ∧
      s.pre6 enc C.prog fn [] false (w.forCall tape i).memory i.args ∧ Assume.holds {} C.prog (lone (Frame.enter C.prog f i.args .normal) [] (w.forCall tape i))) :
    ReturnsInHanded {} C os f .any (s.pre6 enc C.prog fn [] false) (s.post enc C.prog fn false true false false) := by
  refine returnsInHanded_of_change_sized own started noInit hfn witness ?_
  intro W base args ds gs before hval hW hcnd hsz _
  have hW' := hW
  obtain ⟨p, q, hA, hV, rfl, hfz, hnd⟩ := hW
  have hty : s.plain.varTypes C.prog = [] := by simp [ChangeSpec.plain, hv, DataSpec.varTypes]
  rw [hv] at hV
  obtain ⟨rfl, rfl⟩ := trodVars_none hV
  rw [hty, List.append_nil, List.append_nil] at hsz
  have hlt := DataW.TrodAll.lt hA
  have hlen : ds.length = fn.params.size := by have := trodAll_len _ _ _ _ hA; simpa using this
  have hfnc := hs H ds hlen
  refine (walk H enc W base args ds p hval hA hsz).mono fun e W' ⟨he, bel⟩ => ?_
  subst he
  refine ⟨_, rfl, ds, [], p ++ [], [], p, [], hW', ?_, ?_, ?_, bel.frame _, fun h => by cases h⟩
  · rw [hres, List.append_nil, hfnc]
    exact trodAll_mk1 (shut_bool hb _)
  · rw [List.append_nil, hfnc]
    exact trodAll_stays laidOut bel _ _ _ _ hread hA hlt
  · rw [hv, List.append_nil, hfnc]
    rfl

section
variable {H : Type} {enc : TypeId × Value → H} {P : Program} {w : World} {base : Nat} {spare : Nat → Bool} {held : Bool}
theorem agg_rdX {α : Type} {cf : α → List Value} {ok : α → Prop} {t e : TypeId} {size : Nat} {n0 : Nat} {v : Value} {y0 : DataW H × List MemPlace} (ht : P.underlying t = some (.slice e)) (hC : P.cellsOf e = size) (h0 : 0 < size) (hcl : ∀ x, (cf x).length = size)
    (hel : ∀ (n : Nat) (l : List Value) (y : DataW H × List MemPlace), l.length = size → DataW.trod enc P w base spare held n e l = some y → ∃ x : α, l = cf x ∧ ok x)
    (h : DataW.trod enc P w base spare held n0 t [v] = some y0) : ∃ (A : Option Addr) (l : List α) (cap : Nat), v = .slice A l.length cap ∧ l.length ≤ cap ∧ cap ≤ maxLen ∧ RdX cf w A l ∧ ∀ x ∈ l, ok x := by
  have hf := h
  rcases open_slice ht hf with ⟨hcs, _⟩ | ⟨a, len, cap, m, n, D, Pl, hcs, _, hlc, hm, hmm, _, hi⟩
  · simp at hcs
    subst hcs
    exact ⟨none, [], 0, rfl, Nat.le_refl _, Nat.zero_le _, rdX_nil, fun x hx => by cases hx⟩
  · simp at hcs
    subst hcs
    have hlm : len ≤ m := by rw [hmm]; split <;> omega
    obtain ⟨xs, hxl, hx⟩ := list_of (p := fun i (x : α) => ok x ∧ ∀ j u, (cf x)[j]? = some u → w.cell? (a.add (i * size + j)) = some u) len (fun i hi1 => by
      obtain ⟨cs', hc, ht'⟩ := hi i (by omega)
      obtain ⟨_, hcl', hat⟩ := World.cells?_some hc
      rw [hC] at hcl' hat
      obtain ⟨x, rfl, hok⟩ := hel _ _ _ hcl' ht'
      refine ⟨x, hok, fun j u hu => ?_⟩
      have hj : j < size := by have := (List.getElem?_eq_some_iff.1 hu).1; omega
      rw [← Go.Deep.add_add]
      exact (hat j hj).trans hu)
    subst hxl
    refine ⟨some a, xs, cap, rfl, hlc, hm, fun hl0 => ?_, fun x hx1 => ?_⟩
    · have h00 : ∃ u, w.cell? (a.add 0) = some u := by
        have hx0 := hx 0 (xs[0]'hl0) (List.getElem?_eq_getElem hl0)
        have h1 : (cf (xs[0]'hl0))[0]? = some ((cf (xs[0]'hl0))[0]'(by rw [hcl]; exact h0)) := List.getElem?_eq_getElem _
        exact ⟨_, by simpa using hx0.2 0 _ h1⟩
      obtain ⟨u0, hu0⟩ := h00
      have hadd0 : a.add 0 = a := by unfold Addr.add; simp
      rw [hadd0] at hu0
      have hs : a.spot = none := by
        unfold World.cell? at hu0
        split at hu0
        · split at hu0
          · cases hu0
          · rename_i h1; simpa using h1
        · cases hu0
      obtain ⟨b, off, sp⟩ := a
      simp at hs
      subst hs
      refine ⟨b, off, rfl, World.block_lt_of_cell? w _ hu0, fun j u hu => ?_⟩
      have key : ∀ (l : List α) (j : Nat) (u : Value), (l.flatMap cf)[j]? = some u → ∃ i x k, l[i]? = some x ∧ (cf x)[k]? = some u ∧ j = i * size + k := by
        intro l
        induction l with
        | nil => intro j u h; simp at h
        | cons y ys ih =>
          intro j u h
          rw [List.flatMap_cons] at h
          rcases Nat.lt_or_ge j (cf y).length with h1 | h1
          · rw [List.getElem?_append_left h1] at h
            exact ⟨0, y, j, rfl, h, by simp⟩
          · rw [List.getElem?_append_right h1] at h
            obtain ⟨i, x, k, h2, h3, h4⟩ := ih _ _ h
            refine ⟨i + 1, x, k, by simpa using h2, h3, ?_⟩
            rw [hcl] at h1 h4
            rw [Nat.succ_mul]; omega
      obtain ⟨i, x, k, h2, h3, rfl⟩ := key xs j u hu
      have := (hx i x h2).2 k u h3
      rw [Addr.add_mid] at this
      exact this
    · obtain ⟨i, hi1⟩ := List.mem_iff_getElem?.1 hx1
      exact (hx i x hi1).1
end
end Go.Proofs.YtdplnedpbkpgpaaGreatDoor

namespace Go.Proofs.YtdplnedpbkpgpaaGreatDoor
set_option linter.all false
open Go.ChangeShapes Go.WideShapes Go.ChangeAt Go.RowKit Go.Deep

section
variable {H : Type} {enc : TypeId × Value → H} {P : Program} {w : World} {base : Nat} {spare : Nat → Bool} {held : Bool} {R : Nat}
/-- Cells read as data, each slice of which is light. -/
def TrodW (enc : TypeId × Value → H) (P : Program) (w : World) (base : Nat) (spare : Nat → Bool) (held : Bool) (R n : Nat) (t : TypeId) (l : List Value) : Prop :=
  ∃ y, DataW.trod enc P w base spare held n t l = some y ∧ ∀ k ∈ y.1.weights P t, k ≤ R
theorem wAll_mem {e : TypeId} : ∀ {ds : List (DataW H)} {d : DataW H}, d ∈ ds → ∀ n ∈ d.weights P e, n ∈ DataW.weightsAll P e ds
  | [], _, h, _, _ => by cases h
  | x :: r, d, h, n, hn => by
    simp only [DataW.weightsAll, List.mem_append]
    rcases List.mem_cons.1 h with rfl | h
    · exact .inl hn
    · exact .inr (wAll_mem h n hn)
def FieldsW (enc : TypeId × Value → H) (P : Program) (w : World) (base : Nat) (spare : Nat → Bool) (held : Bool) (R n : Nat) (fs : Array Field) (l : List Value) : Prop :=
  ∀ (j : Nat) (f : Field), fs[j]? = some f → TrodW enc P w base spare held R n f.type ((l.drop f.offset).take (P.cellsOf f.type))
theorem TrodW.fields {n : Nat} {t : TypeId} {fs : Array Field} {l : List Value} (hs : P.underlying t = some (.struct fs)) (h : TrodW enc P w base spare held R n t l) : ∃ n', FieldsW enc P w base spare held R n' fs l := by
  obtain ⟨y, h, hW⟩ := h
  obtain ⟨ys, n', _, hx, _, hyl, hg⟩ := DataW.trod_struct hs h
  refine ⟨n', fun j f hj => ?_⟩
  have hjl : j < fs.size := (Array.getElem?_eq_some_iff.1 hj).1
  have hjy : j < ys.length := by omega
  refine ⟨ys[j], (hg j f hj).trans (List.getElem?_eq_getElem hjy), fun q hq => hW q ?_⟩
  subst hx
  simp only [DataW.weights, hs]
  exact DataW.weights_mem_each (j := j) (t := f.type) (d := (ys[j]).1) (by simp [hj]) (by simp [hjy]) q hq
theorem FieldsW.at_ {n : Nat} {fs : Array Field} {l l' : List Value} (h : FieldsW enc P w base spare held R n fs l) (j : Nat) (T : TypeId) (off k : Nat) (f : Field) (hj : fs[j]? = some f) (hT : f.type = T) (ho : f.offset = off) (hk : P.cellsOf T = k) (hl : (l.drop off).take k = l') : TrodW enc P w base spare held R n T l' := by
  have hy := h j f hj
  rw [hT, ho, hk, hl] at hy
  exact hy
theorem TrodW.int {k : IntKind} {n : Nat} {t : TypeId} {c : Value} (ht : P.underlying t = some (.int k)) (h : TrodW enc P w base spare held R n t [c]) : ∃ a, c = .int k a ∧ (Lit.int k a).wf = true := by
  obtain ⟨y, h, _⟩ := h
  exact agg_int ht h
theorem TrodW.bool {n : Nat} {t : TypeId} {c : Value} (ht : P.underlying t = some .bool) (h : TrodW enc P w base spare held R n t [c]) : ∃ b : Bool, c = .bool b := by
  obtain ⟨y, h, _⟩ := h
  exact agg_boolP ht h
theorem TrodW.str {n : Nat} {t : TypeId} {c : Value} (ht : P.underlying t = some .string) (h : TrodW enc P w base spare held R n t [c]) : ∃ s : ByteArray, c = .string s ∧ s.size ≤ maxLen ∧ s.size ≤ R := by
  obtain ⟨y, h, hW⟩ := h
  obtain ⟨s, h1, h2, h3⟩ := DataW.trod_string ht h
  refine ⟨s, by simpa using h1, h3, ?_⟩
  subst h2
  have := hW s.data.toList.length (by simp [DataW.weights])
  have e : s.data.toList.length = s.size := by rw [Array.length_toList]; rfl
  rw [e] at this
  exact this
theorem TrodW.arr {n m : Nat} {t e : TypeId} {l : List Value} (ht : P.underlying t = some (.array m e)) (h : TrodW enc P w base spare held R n t l) : ∃ n', ∀ i, i < m → TrodW enc P w base spare held R n' e ((l.drop (i * P.cellsOf e)).take (P.cellsOf e)) := by
  obtain ⟨y, h, hW⟩ := h
  obtain ⟨xs, n', _, hx, _, hxl, hg⟩ := DataW.trod_array ht h
  refine ⟨n', fun i hi => ?_⟩
  have hil : i < xs.length := by omega
  refine ⟨xs[i], (hg i hi).trans (List.getElem?_eq_getElem hil), fun q hq => hW q ?_⟩
  subst hx
  simp only [DataW.weights, ht]
  exact wAll_mem (List.mem_map.2 ⟨xs[i], List.getElem_mem hil, rfl⟩) q hq
theorem TrodW.slice {α : Type} {cf : α → List Value} {ok : α → Prop} {t e : TypeId} {size : Nat} {n0 : Nat} {v : Value} (ht : P.underlying t = some (.slice e)) (hC : P.cellsOf e = size) (h0 : 0 < size) (hcl : ∀ x, (cf x).length = size)
    (hel : ∀ (n : Nat) (l : List Value), l.length = size → TrodW enc P w base spare held R n e l → ∃ x : α, l = cf x ∧ ok x)
    (h : TrodW enc P w base spare held R n0 t [v]) : ∃ (A : Option Addr) (l : List α) (cap : Nat), v = .slice A l.length cap ∧ l.length ≤ cap ∧ cap ≤ maxLen ∧ RdX cf w A l ∧ (∀ x ∈ l, ok x) ∧ l.length * P.bytesOf e ≤ R := by
  obtain ⟨y0, h, hW⟩ := h
  rcases open_slice ht h with ⟨hcs, _⟩ | ⟨a, len, cap, m, n, D, Pl, hcs, _, hlc, hm, hmm, hx, hi⟩
  · simp at hcs
    subst hcs
    exact ⟨none, [], 0, rfl, Nat.le_refl _, Nat.zero_le _, rdX_nil, (fun x hx => by cases hx), by simp⟩
  · simp at hcs
    subst hcs
    have hlm : len ≤ m := by rw [hmm]; split <;> omega
    subst hx
    have hlw : len * P.bytesOf e ≤ R := by
      have h1 := hW (((List.range len).map D).length * P.bytesOf e + ((List.range (m - len)).map fun j => D (len + j)).length * P.bytesOf e) (by
        simp only [DataW.weights, ht]
        rw [← Nat.add_mul]
        exact List.mem_cons_self)
      simp only [List.length_map, List.length_range] at h1
      exact Nat.le_trans (Nat.le_add_right _ _) h1
    obtain ⟨xs, hxl, hx⟩ := list_of (p := fun i (x : α) => ok x ∧ ∀ j u, (cf x)[j]? = some u → w.cell? (a.add (i * size + j)) = some u) len (fun i hi1 => by
      obtain ⟨cs', hc, ht'⟩ := hi i (by omega)
      obtain ⟨_, hcl', hat⟩ := World.cells?_some hc
      rw [hC] at hcl' hat
      obtain ⟨x, rfl, hok⟩ := hel _ _ hcl' ⟨_, ht', fun k hk => hW k (by
        simp only [DataW.weights, ht, List.mem_cons, List.mem_append]
        exact .inr (.inl (wAll_mem (List.mem_map.2 ⟨i, List.mem_range.2 hi1, rfl⟩) k hk)))⟩
      refine ⟨x, hok, fun j u hu => ?_⟩
      have hj : j < size := by have := (List.getElem?_eq_some_iff.1 hu).1; omega
      rw [← Go.Deep.add_add]
      exact (hat j hj).trans hu)
    subst hxl
    refine ⟨some a, xs, cap, rfl, hlc, hm, fun hl0 => ?_, fun x hx1 => ?_, hlw⟩
    · have h00 : ∃ u, w.cell? (a.add 0) = some u := by
        have hx0 := hx 0 (xs[0]'hl0) (List.getElem?_eq_getElem hl0)
        have h1 : (cf (xs[0]'hl0))[0]? = some ((cf (xs[0]'hl0))[0]'(by rw [hcl]; exact h0)) := List.getElem?_eq_getElem _
        exact ⟨_, by simpa using hx0.2 0 _ h1⟩
      obtain ⟨u0, hu0⟩ := h00
      have hadd0 : a.add 0 = a := by unfold Addr.add; simp
      rw [hadd0] at hu0
      have hs : a.spot = none := by
        unfold World.cell? at hu0
        split at hu0
        · split at hu0
          · cases hu0
          · rename_i h1; simpa using h1
        · cases hu0
      obtain ⟨b, off, sp⟩ := a
      simp at hs
      subst hs
      refine ⟨b, off, rfl, World.block_lt_of_cell? w _ hu0, fun j u hu => ?_⟩
      have key : ∀ (l : List α) (j : Nat) (u : Value), (l.flatMap cf)[j]? = some u → ∃ i x k, l[i]? = some x ∧ (cf x)[k]? = some u ∧ j = i * size + k := by
        intro l
        induction l with
        | nil => intro j u h; simp at h
        | cons y ys ih =>
          intro j u h
          rw [List.flatMap_cons] at h
          rcases Nat.lt_or_ge j (cf y).length with h1 | h1
          · rw [List.getElem?_append_left h1] at h
            exact ⟨0, y, j, rfl, h, by simp⟩
          · rw [List.getElem?_append_right h1] at h
            obtain ⟨i, x, k, h2, h3, h4⟩ := ih _ _ h
            refine ⟨i + 1, x, k, by simpa using h2, h3, ?_⟩
            rw [hcl] at h1 h4
            rw [Nat.succ_mul]; omega
      obtain ⟨i, x, k, h2, h3, rfl⟩ := key xs j u hu
      have := (hx i x h2).2 k u h3
      rw [Addr.add_mid] at this
      exact this
    · obtain ⟨i, hi1⟩ := List.mem_iff_getElem?.1 hx1
      exact (hx i x hi1).1
/-- A struct that is handed in. -/
theorem open_structW {r : Reach} {b0 : Nat} {t : TypeId} {fs : Array Field} {v : Value} {d : DataW H} {p : List MemPlace} {k : Nat} (hs : P.underlying t = some (.struct fs)) (hC : P.cellsOf t = k) (hW : ∀ q ∈ d.weights P t, q ≤ R)
    (hv : Value.okWide P w r b0 t v) (h : DataW.Trod enc P w base spare held t v d p) : ∃ (l : List Value) (n : Nat), v = .agg l.toArray ∧ l.length = k ∧ TrodW enc P w base spare held R n t l := by
  obtain ⟨cs, rfl, hsz⟩ := okWide_struct hs hv
  obtain ⟨l⟩ := cs
  obtain ⟨fuel, hf⟩ := h
  have hcs : (Value.agg ⟨l⟩).cells.toList = l := by simp [Value.cells]
  rw [hcs] at hf
  exact ⟨l, fuel, rfl, by simpa using hsz.trans hC, ⟨_, hf, hW⟩⟩
end
end Go.Proofs.YtdplnedpbkpgpaaGreatDoor

namespace Go.Proofs.YtdplnedpbkpgpaaGreatDoor
set_option linter.all false
set_option maxRecDepth 100000
open Go.ChangeShapes Go.WideShapes Go.ChangeAt Go.RowKit Go.Deep

theorem arN24 {l : List Value} (h : l.length = 24) : ∃ c0 c1 c2 c3 c4 c5 c6 c7 c8 c9 c10 c11 c12 c13 c14 c15 c16 c17 c18 c19 c20 c21 c22 c23, l = [c0, c1, c2, c3, c4, c5, c6, c7, c8, c9, c10, c11, c12, c13, c14, c15, c16, c17, c18, c19, c20, c21, c22, c23] := by
  match l, h with
  | [c0, c1, c2, c3, c4, c5, c6, c7, c8, c9, c10, c11, c12, c13, c14, c15, c16, c17, c18, c19, c20, c21, c22, c23], _ => exact ⟨c0, c1, c2, c3, c4, c5, c6, c7, c8, c9, c10, c11, c12, c13, c14, c15, c16, c17, c18, c19, c20, c21, c22, c23, rfl⟩
theorem arN32 {l : List Value} (h : l.length = 32) : ∃ c0 c1 c2 c3 c4 c5 c6 c7 c8 c9 c10 c11 c12 c13 c14 c15 c16 c17 c18 c19 c20 c21 c22 c23 c24 c25 c26 c27 c28 c29 c30 c31, l = [c0, c1, c2, c3, c4, c5, c6, c7, c8, c9, c10, c11, c12, c13, c14, c15, c16, c17, c18, c19, c20, c21, c22, c23, c24, c25, c26, c27, c28, c29, c30, c31] := by
  match l, h with
  | [c0, c1, c2, c3, c4, c5, c6, c7, c8, c9, c10, c11, c12, c13, c14, c15, c16, c17, c18, c19, c20, c21, c22, c23, c24, c25, c26, c27, c28, c29, c30, c31], _ => exact ⟨c0, c1, c2, c3, c4, c5, c6, c7, c8, c9, c10, c11, c12, c13, c14, c15, c16, c17, c18, c19, c20, c21, c22, c23, c24, c25, c26, c27, c28, c29, c30, c31, rfl⟩
/-- The numbers of a setting are such as the program has. -/
structure TOk (t : TM) : Prop where
  ch : ∀ i, i < 19 → 0 ≤ t.ch i ∧ t.ch i < 256
  fl : 0 ≤ t.fl ∧ t.fl < 18446744073709551616
  mn : -9223372036854775808 ≤ t.mn ∧ t.mn ≤ 9223372036854775807
  tm : -9223372036854775808 ≤ t.tm ∧ t.tm ≤ 9223372036854775807
theorem wf_u64 {n : Int} (h : (Lit.int .u64 n).wf = true) : 0 ≤ n ∧ n < 18446744073709551616 := by
  simp [Lit.wf, IntKind.min, IntKind.max, IntKind.bits, IntKind.signed] at h; omega
theorem wf_u8' {n : Int} (h : (Lit.int .u8 n).wf = true) : 0 ≤ n ∧ n < 256 := by
  have := wf_u8 h
  omega
section
variable {H : Type} {enc : TypeId × Value → H} {w : World} {base : Nat} {spare : Nat → Bool} {held : Bool} {R : Nat}
theorem termios_cells {n : Nat} {l : List Value} (hl : l.length = 24) (h : TrodW enc Tryz.prog w base spare held R n 28 l) : ∃ t : TM, l = t.cells ∧ TOk t := by
  obtain ⟨n1, hf⟩ := h.fields Tryz.underlying28
  obtain ⟨c0, c1, c2, c3, c4, c5, c6, c7, c8, c9, c10, c11, c12, c13, c14, c15, c16, c17, c18, c19, c20, c21, c22, c23, rfl⟩ := arN24 hl
  have g0 := hf.at_ 0 25 0 19 _ rfl rfl rfl (by kernel_rfl) rfl
  have g1 := hf.at_ 1 26 19 1 _ rfl rfl rfl (by kernel_rfl) rfl
  have g2 := hf.at_ 2 22 20 1 _ rfl rfl rfl (by kernel_rfl) rfl
  have g3 := hf.at_ 3 22 21 1 _ rfl rfl rfl (by kernel_rfl) rfl
  have g4 := hf.at_ 4 3 22 1 _ rfl rfl rfl (by kernel_rfl) rfl
  have g5 := hf.at_ 5 3 23 1 _ rfl rfl rfl (by kernel_rfl) rfl
  obtain ⟨n2, ha⟩ := g0.arr Tryz.underlying25
  rw [(by kernel_rfl : Tryz.prog.cellsOf 5 = 1)] at ha
  obtain ⟨x0, rfl, u0⟩ := TrodW.int (c := c0) Tryz.underlying5 (ha 0 (by decide))
  obtain ⟨x1, rfl, u1⟩ := TrodW.int (c := c1) Tryz.underlying5 (ha 1 (by decide))
  obtain ⟨x2, rfl, u2⟩ := TrodW.int (c := c2) Tryz.underlying5 (ha 2 (by decide))
  obtain ⟨x3, rfl, u3⟩ := TrodW.int (c := c3) Tryz.underlying5 (ha 3 (by decide))
  obtain ⟨x4, rfl, u4⟩ := TrodW.int (c := c4) Tryz.underlying5 (ha 4 (by decide))
  obtain ⟨x5, rfl, u5⟩ := TrodW.int (c := c5) Tryz.underlying5 (ha 5 (by decide))
  obtain ⟨x6, rfl, u6⟩ := TrodW.int (c := c6) Tryz.underlying5 (ha 6 (by decide))
  obtain ⟨x7, rfl, u7⟩ := TrodW.int (c := c7) Tryz.underlying5 (ha 7 (by decide))
  obtain ⟨x8, rfl, u8⟩ := TrodW.int (c := c8) Tryz.underlying5 (ha 8 (by decide))
  obtain ⟨x9, rfl, u9⟩ := TrodW.int (c := c9) Tryz.underlying5 (ha 9 (by decide))
  obtain ⟨x10, rfl, u10⟩ := TrodW.int (c := c10) Tryz.underlying5 (ha 10 (by decide))
  obtain ⟨x11, rfl, u11⟩ := TrodW.int (c := c11) Tryz.underlying5 (ha 11 (by decide))
  obtain ⟨x12, rfl, u12⟩ := TrodW.int (c := c12) Tryz.underlying5 (ha 12 (by decide))
  obtain ⟨x13, rfl, u13⟩ := TrodW.int (c := c13) Tryz.underlying5 (ha 13 (by decide))
  obtain ⟨x14, rfl, u14⟩ := TrodW.int (c := c14) Tryz.underlying5 (ha 14 (by decide))
  obtain ⟨x15, rfl, u15⟩ := TrodW.int (c := c15) Tryz.underlying5 (ha 15 (by decide))
  obtain ⟨x16, rfl, u16⟩ := TrodW.int (c := c16) Tryz.underlying5 (ha 16 (by decide))
  obtain ⟨x17, rfl, u17⟩ := TrodW.int (c := c17) Tryz.underlying5 (ha 17 (by decide))
  obtain ⟨x18, rfl, u18⟩ := TrodW.int (c := c18) Tryz.underlying5 (ha 18 (by decide))
  obtain ⟨fl, rfl, v1⟩ := TrodW.int Tryz.underlying26 g1
  obtain ⟨inn, rfl, v2⟩ := TrodW.int Tryz.underlying22 g2
  obtain ⟨out, rfl, v3⟩ := TrodW.int Tryz.underlying22 g3
  obtain ⟨mn, rfl, v4⟩ := TrodW.int Tryz.underlying3 g4
  obtain ⟨tm, rfl, v5⟩ := TrodW.int Tryz.underlying3 g5
  refine ⟨⟨fun k => [x0, x1, x2, x3, x4, x5, x6, x7, x8, x9, x10, x11, x12, x13, x14, x15, x16, x17, x18].getD k 0, fl, inn, out, mn, tm⟩, rfl, ⟨fun i hi => ?_, wf_u64 v1, wf_i64 v4, wf_i64 v5⟩⟩
  match i, hi with
  | 0, _ => exact wf_u8' u0
  | 1, _ => exact wf_u8' u1
  | 2, _ => exact wf_u8' u2
  | 3, _ => exact wf_u8' u3
  | 4, _ => exact wf_u8' u4
  | 5, _ => exact wf_u8' u5
  | 6, _ => exact wf_u8' u6
  | 7, _ => exact wf_u8' u7
  | 8, _ => exact wf_u8' u8
  | 9, _ => exact wf_u8' u9
  | 10, _ => exact wf_u8' u10
  | 11, _ => exact wf_u8' u11
  | 12, _ => exact wf_u8' u12
  | 13, _ => exact wf_u8' u13
  | 14, _ => exact wf_u8' u14
  | 15, _ => exact wf_u8' u15
  | 16, _ => exact wf_u8' u16
  | 17, _ => exact wf_u8' u17
  | 18, _ => exact wf_u8' u18
  | k + 19, hi => exact absurd hi (by omega)
theorem var_cells {n : Nat} {l : List Value} (hl : l.length = 2) (h : TrodW enc Tryz.prog w base spare held R n 76 l) : ∃ x : VR, l = cVar x ∧ (x.n.size ≤ maxLen ∧ x.v.size ≤ maxLen ∧ x.n.size ≤ R ∧ x.v.size ≤ R) := by
  obtain ⟨n1, hf⟩ := h.fields Tryz.underlying76
  match l, hl with
  | [c0, c1], _ =>
  have g0 := hf.at_ 0 9 0 1 _ rfl rfl rfl (by kernel_rfl) rfl
  have g1 := hf.at_ 1 9 1 1 _ rfl rfl rfl (by kernel_rfl) rfl
  obtain ⟨a, rfl, a1, a2⟩ := TrodW.str Tryz.underlying9 g0
  obtain ⟨b, rfl, b1, b2⟩ := TrodW.str Tryz.underlying9 g1
  exact ⟨⟨a, b⟩, rfl, a1, b1, a2, b2⟩
/-- What a session that is handed in holds. -/
structure SesIn (w : World) (R : Nat) (s : SS) (A : Option Addr) (cap : Nat) : Prop where
  rd : RdX cVar w A s.env
  le : s.env.length ≤ cap
  max : cap ≤ maxLen
  few : s.env.length * 32 ≤ R
  term : s.term.size ≤ maxLen ∧ s.term.size ≤ R
  size : (0 ≤ s.c0 ∧ s.c0 < 4294967296) ∧ (0 ≤ s.c1 ∧ s.c1 < 4294967296) ∧ (0 ≤ s.c2 ∧ s.c2 < 4294967296) ∧ (0 ≤ s.c3 ∧ s.c3 < 4294967296)
  t : TOk s.t
  strs : ∀ x ∈ s.env, x.n.size ≤ maxLen ∧ x.v.size ≤ maxLen ∧ x.n.size ≤ R ∧ x.v.size ≤ R
theorem wf_u32' {n : Int} (h : (Lit.int .u32 n).wf = true) : 0 ≤ n ∧ n < 4294967296 := by
  simp [Lit.wf, IntKind.min, IntKind.max, IntKind.bits, IntKind.signed] at h; omega
theorem open_strW {r : Reach} {b0 : Nat} {v : Value} {d : DataW H} {p : List MemPlace} (hW : ∀ q ∈ d.weights Tryz.prog 9, q ≤ R) (hv : Value.okWide Tryz.prog w r b0 9 v) (h : DataW.Trod enc Tryz.prog w base spare held 9 v d p) : ∃ s : ByteArray, v = .string s ∧ s.size ≤ maxLen ∧ s.size ≤ R := by
  obtain ⟨s0, rfl⟩ := okWide_string Tryz.underlying9 hv
  obtain ⟨fuel, hf⟩ := h
  exact TrodW.str Tryz.underlying9 ⟨_, hf, hW⟩
theorem open_sess {r : Reach} {b0 : Nat} {v : Value} {d : DataW H} {p : List MemPlace} (hW : ∀ q ∈ d.weights Tryz.prog 31, q ≤ R) (hv : Value.okWide Tryz.prog w r b0 31 v) (h : DataW.Trod enc Tryz.prog w base spare held 31 v d p) : ∃ (s : SS) (A : Option Addr) (cap : Nat), v = s.val A cap ∧ SesIn w R s A cap := by
  obtain ⟨l, n, rfl, hl, hf⟩ := open_structW Tryz.underlying31 (by kernel_rfl : Tryz.prog.cellsOf 31 = 32) hW hv h
  obtain ⟨n1, hf⟩ := hf.fields Tryz.underlying31
  obtain ⟨c0, c1, c2, c3, c4, c5, c6, c7, c8, c9, c10, c11, c12, c13, c14, c15, c16, c17, c18, c19, c20, c21, c22, c23, c24, c25, c26, c27, c28, c29, c30, c31, rfl⟩ := arN32 hl
  have g0 := hf.at_ 0 4 0 1 _ rfl rfl rfl (by kernel_rfl) rfl
  have g1 := hf.at_ 1 9 1 1 _ rfl rfl rfl (by kernel_rfl) rfl
  have g2 := hf.at_ 2 24 2 4 _ rfl rfl rfl (by kernel_rfl) rfl
  have g3 := hf.at_ (l' := [c6, c7, c8, c9, c10, c11, c12, c13, c14, c15, c16, c17, c18, c19, c20, c21, c22, c23, c24, c25, c26, c27, c28, c29]) 3 28 6 24 _ rfl rfl rfl (by kernel_rfl) rfl
  have g4 := hf.at_ 4 29 30 1 _ rfl rfl rfl (by kernel_rfl) rfl
  have g5 := hf.at_ 5 4 31 1 _ rfl rfl rfl (by kernel_rfl) rfl
  obtain ⟨n2, hs⟩ := g2.fields Tryz.underlying24
  have s0 := hs.at_ 0 22 0 1 _ rfl rfl rfl (by kernel_rfl) rfl
  have s1 := hs.at_ 1 22 1 1 _ rfl rfl rfl (by kernel_rfl) rfl
  have s2 := hs.at_ 2 22 2 1 _ rfl rfl rfl (by kernel_rfl) rfl
  have s3 := hs.at_ 3 22 3 1 _ rfl rfl rfl (by kernel_rfl) rfl
  obtain ⟨pt, rfl⟩ := TrodW.bool Tryz.underlying4 g0
  obtain ⟨tm, rfl, a1, a2⟩ := TrodW.str Tryz.underlying9 g1
  obtain ⟨z0, rfl, u0⟩ := TrodW.int Tryz.underlying22 s0
  obtain ⟨z1, rfl, u1⟩ := TrodW.int Tryz.underlying22 s1
  obtain ⟨z2, rfl, u2⟩ := TrodW.int Tryz.underlying22 s2
  obtain ⟨z3, rfl, u3⟩ := TrodW.int Tryz.underlying22 s3
  obtain ⟨t, et, ht⟩ := termios_cells rfl g3
  obtain ⟨A, env, cap, rfl, e1, e2, e3, e4, e5⟩ := TrodW.slice (cf := cVar) (ok := fun x => x.n.size ≤ maxLen ∧ x.v.size ≤ maxLen ∧ x.n.size ≤ R ∧ x.v.size ≤ R) (size := 2) Tryz.underlying29 (by kernel_rfl) (by decide) cVar_len (fun n l hl h => var_cells hl h) g4
  obtain ⟨st, rfl⟩ := TrodW.bool Tryz.underlying4 g5
  refine ⟨⟨pt, tm, z0, z1, z2, z3, t, env, st⟩, A, cap, ?_, ⟨e3, e1, e2, by rw [by_rv27] at e5; exact e5, ⟨a1, a2⟩, ⟨wf_u32' u0, wf_u32' u1, wf_u32' u2, wf_u32' u3⟩, ht, e4⟩⟩
  have e : ∀ (l : List Value), l = t.cells → (Value.agg (.bool pt :: .string tm :: .int .u32 z0 :: .int .u32 z1 :: .int .u32 z2 :: .int .u32 z3 :: (l ++ [.slice A env.length cap, .bool st])).toArray) = SS.val ⟨pt, tm, z0, z1, z2, z3, t, env, st⟩ A cap := fun l h => by subst h; rfl
  exact e _ et
end
end Go.Proofs.YtdplnedpbkpgpaaGreatDoor

namespace Go.Proofs.YtdplnedpbkpgpaaGreatDoor
set_option linter.all false
open Go.ChangeShapes Go.WideShapes Go.ChangeAt Go.RowKit Go.Deep

/-- What the walk of a law is handed: the arguments read as data, how much each takes, the world's shape. -/
def LawWalkC (P : Program) (f : FuncId) (fn : Func) : Prop :=
  ∀ (H : Type) (enc : TypeId × Value → H) (W : World) (base : Nat) (args : Array Value) (ds : List (DataW H)) (ps : List MemPlace),
    (∀ (j : Nat) t v, fn.params[j]? = some t → args[j]? = some v → Value.okWide P W .any base t v) →
    DataW.TrodAll enc P W 0 (fun _ => true) true fn.params.toList args.toList ds ps →
    (DataW.weightsEach P fn.params.toList ds).all (· ≤ reachBytes) = true →
    W.ShapedOpen P →
    Calls P f args W fun e W' => e = .returned (.bool true) ∧ Below W.heap.size W W'

theorem law_liftedC {C : Checked} {tb : TypeId} (own : ownKnob C.prog.godebug = none) (laidOut : laidOutB C.prog = true) (hb : C.prog.underlying tb = some .bool) (f : FuncId) (fn : Func) (s : ChangeSpec)
    (hfn : C.prog.funcs[f]? = some fn) (noInit : C.prog.inits.idxOf? f = none) (hres : fn.resultTypes = #[tb])
    (hread : readsAll C.prog fn.params.toList = true) (hv : s.vars = [])
    (hs : ∀ (H : Type) (ds : List (DataW H)), ds.length = fn.params.size → s.fn H ds = { results := [.lit (.bool true)], args := ds })
    (X : World → Prop)
    (walk : LawWalkC C.prog f fn) (os : Os) (started : os.Started) (H : Type) (enc : TypeId × Value → H)
    (witness : ∃ (w : World) (tape : Tape) (i : Input), w.os = os ∧ (w.forCall tape i).Shaped C.prog ∧ i.vars = [] ∧ Input.okWide C.prog (w.forCall tape i) .any w.heap.size f i ∧
      ((s.pre enc C.prog fn [] false (w.forCall tape i).memory i.args ∧ X (w.forCall tape i).memory) ∧ sizedMet enc C.prog fn (OpenSpec.ofChange s) false (w.forCall tape i).memory i.args) ∧ Assume.holds {} C.prog (lone (Frame.enter C.prog f i.args .normal) [] (w.forCall tape i))) :
    ReturnsInHanded {} C os f .any (fun w args => (s.pre enc C.prog fn [] false w args ∧ X w) ∧ sizedMet enc C.prog fn (OpenSpec.ofChange s) false w args) (s.post enc C.prog fn false true false false) := by
  refine returnsInHanded_of_calls own started noInit witness ?_
  intro w tape i _ hsh _ hok hpre hholds
  obtain ⟨_, _, _, fn', hfn', _, _, _, _, hval⟩ := hok
  have e : fn' = fn := Option.some.inj (hfn'.symm.trans hfn)
  subst e
  obtain ⟨⟨⟨ds, gs, before, hw, hc⟩, _⟩, hz⟩ := hpre
  have hW := DataW.Whole.of_heap (w' := w.forCall tape i) (by rfl) hw
  have hsz := hz.weights hw
  have hW' := hW
  obtain ⟨p, q, hA, hV, rfl, hfz, hnd⟩ := hW
  have hty : (OpenSpec.ofChange s).bare.plain.varTypes C.prog = [] := by simp [OpenSpec.ofChange, OpenSpec.bare, ChangeSpec.plain, hv, DataSpec.varTypes]
  have hV0 := hV
  rw [hv] at hV0
  obtain ⟨rfl, rfl⟩ := trodVars_none hV0
  rw [hty, List.append_nil, List.append_nil] at hsz
  have hlt := DataW.TrodAll.lt hA
  have hlen : ds.length = fn'.params.size := by have := trodAll_len _ _ _ _ hA; simpa using this
  have hfnc := hs H ds hlen
  refine (walk H enc (w.forCall tape i) w.heap.size i.args ds p hval hA hsz hsh).mono fun e W' ⟨he, bel⟩ => ?_
  subst he
  refine ChangeSpec.post_blind ⟨ds, [], p ++ [], [], p, [], hW', ?_, ?_, ?_, bel.frame _, fun h => by cases h⟩
  · rw [hres, List.append_nil, hfnc]
    exact trodAll_mk1 (shut_bool hb _)
  · rw [List.append_nil, hfnc]
    exact trodAll_stays laidOut bel _ _ _ _ hread hA hlt
  · rw [hv, List.append_nil, hfnc]
    rfl
end Go.Proofs.YtdplnedpbkpgpaaGreatDoor
