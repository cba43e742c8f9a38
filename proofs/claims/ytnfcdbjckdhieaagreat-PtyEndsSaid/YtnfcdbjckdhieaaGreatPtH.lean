/- Layer 17: the program's events, for the document's answer; for all events; no condition but their number. -/
import Derived.Test.YtnfcdbjckdhieaaGreatPtC
namespace Go.Proofs.YtnfcdbjckdhieaaGreat
set_option linter.all false
set_option maxRecDepth 100000
open Go.RowKit

theorem elemRev : ElemT Tryz.prog 81 98 2 (Tryz.prog.bytesOf 98) := elemT_of (z := .agg #[.int .i64 0, .int .i64 0]) (by kernel_rfl) (by kernel_rfl) (by decide) (by decide)
theorem by_rev : Tryz.prog.bytesOf 98 = 16 := by kernel_rfl
def evSC (e : Int × Int) : List SC := [.v (.int .i64 e.1), .v (.int .i64 e.2)]
set_option maxHeartbeats 2000000 in
theorem events17_any (A : Option Addr) (c : Nat) (l : List (Int × Int)) (w : World) (hr : RdX cEv w A l) (hl : l.length ≤ 100000) : Calls Tryz.prog 60 #[.slice A l.length c] w (NewX w (fun z : SX => .slice z.1 l.length z.2) (fun z w => RdE w z l)) := by
  have hm : l.length ≤ maxLen := by unfold maxLen; omega
  have J : ∀ (d i : Nat), l.length - i = d → i ≤ l.length → ∀ (A4 : Option Addr) (c4 : Nat) (u : Nat → Value), Hs Tryz.prog 60 (NewX w (fun z : SX => .slice z.1 l.length z.2) (fun z w => RdE w z l)) (Tryz.f60).ntmps w [] [0] ⟨.no, loopAt Tryz.f60 0, pins [(3, .c (.v (.slice A4 i c4))), (6, .c (.v (.slice A l.length c))), (7, .c (.v (.int .i64 l.length))), (8, .c (.v (.int .i64 i)))] (.vals u), [.s A4 c4 i 98 2 ((l.take i).flatMap cEv)]⟩ := by
    intro d
    induction d with
    | zero =>
      intro i hd hi A4 c4 u
      obtain rfl : i = l.length := by omega
      rw [List.take_length]
      refine Hs.run0 300 (fun _ => by kernel_rfl) ?_
      refine Hs.condP ((l.length : Int) < (l.length : Int)) (by kernel_rfl) (fun h => by omega) (fun h => ?_)
      refine Hs.run0 300 (fun _ => by kernel_rfl) ?_
      exact Hs.ret (v := .slice A4 l.length c4) Tryz.func60 (by kernel_rfl) fun w' H => ⟨(A4, c4), rfl, H.only, fun L hL => by
        have h2 := H.fresh (cf := cEv) (E := 98) (size := 2) (A := A4) (cap := c4) (l := l) 0 rfl (by kernel_rfl)
        obtain ⟨A1, cap1, e1, hc1, hc2, hrr, hA⟩ := h2.form
        injection e1 with e1 e2 e3
        subst e1; subst e3
        exact (rdX_keeps hrr fun a ha hx => by
          have := (hA a ha).1
          have := hL _ hx
          omega).imp fun w h => ⟨h, hc1, hc2⟩⟩
    | succ d ih =>
      intro i hd hi A4 c4 u
      have hil : i < l.length := by omega
      obtain ⟨y, hy⟩ : ∃ y, l[i]? = some y := ⟨_, List.getElem?_eq_getElem hil⟩
      have htk : l.take (i + 1) = l.take i ++ [y] := by rw [List.take_add_one, hy]; rfl
      obtain ⟨ab, aoff, hA, _, _⟩ := hr (by omega)
      have hih := fun A4 c4 u => ih (i + 1) (by omega) (by omega) A4 c4 u
      rw [htk] at hih
      rw [hA] at hih hr ⊢
      refine Hs.run0 300 (fun _ => by kernel_rfl) ?_
      refine Hs.condP ((i : Int) < (l.length : Int)) (by kernel_rfl) (fun _ => ?_) (fun h => by omega)
      refine Hs.run0 300 (fun _ => by kernel_rfl) ?_
      refine Hs.idx (b := ab) (off := aoff) (len := l.length) (c := c) (i := i) elemEv hil (by kernel_rfl) ?_
      refine Hs.ldx (cf := cEv) (size := 2) (E := 46) (b := ab) (off := aoff) (i := i) (l := l) (x := y) cEv_len (.g (evSC y)) (by kernel_rfl) (fun w' H => hr.only H.only) hy (by kernel_rfl) (by kernel_rfl) rfl (by kernel_rfl) ?_
      refine Hs.run2 300 (fun _ => by kernel_rfl) fun b1 b2 => ?_
      refine Hs.app (cf := cEv) (c := 1) (ty := 81) 0 elemRev (l.take i) [y] i 1 (by rw [List.length_take]; omega) rfl cEv_one cEv_len (A := A4) (B := some ⟨b2, 0, none⟩) (cap := c4) (by kernel_rfl) (by kernel_rfl) (by kernel_rfl) (fun w' H => H.rdB (cf := cEv) (wr := true) (T := 98) (cs := evSC y) (gs := [y]) 2 (by kernel_rfl) rfl) (by unfold maxLen; omega) (by rw [by_rev]; omega) fun A6 c6 h6 => ?_
      refine Hs.run0 300 (fun _ => by kernel_rfl) ?_
      refine Hs.slot 8 (.c (.v (.int .i64 (i + 1 : Nat)))) rfl ((by kernel_rfl : _ = Value.int .i64 (IntKind.i64.wrap ((i : Int) + 1))).trans (wrap_nextJ hm)) ?_
      refine Hs.loop (by kernel_rfl) ?_
      exact Hs.goto (loopAt Tryz.f60 0) [0] [.s A6 c6 (i + 1) 98 2 ((l.take i ++ [y]).flatMap cEv)] [(3, .c (.v (.slice A6 (i + 1) c6))), (6, .c (.v (.slice (some ⟨ab, aoff, none⟩) l.length c))), (7, .c (.v (.int .i64 l.length))), (8, .c (.v (.int .i64 (i + 1 : Nat))))] (by kernel_rfl) (by decide) (by kernel_rfl) (by kernel_rfl) (fun _ => (by kernel_rfl)) (fun u => hih A6 c6 u)
  refine Hs.enter Tryz.func60 [] [] [] [.c (.v (.slice A l.length c))] (Mem.start0 w) (by kernel_rfl) (by kernel_rfl) ?_
  refine Hs.run0 300 (fun _ => by kernel_rfl) ?_
  refine Hs.nilS 98 2 (by kernel_rfl) ?_ (by kernel_rfl)
  refine Hs.loop (by kernel_rfl) ?_
  exact Hs.goto (loopAt Tryz.f60 0) [0] [.s none 0 0 98 2 (([] : List (Int × Int)).flatMap cEv)] [(3, .c (.v (.slice none 0 0))), (6, .c (.v (.slice A l.length c))), (7, .c (.v (.int .i64 l.length))), (8, .c (.v (.int .i64 (0 : Nat))))] (by kernel_rfl) (by decide) (by kernel_rfl) (by kernel_rfl) (fun _ => (by kernel_rfl)) (fun u => J l.length 0 (by omega) (by omega) none 0 u)
end Go.Proofs.YtnfcdbjckdhieaaGreat
