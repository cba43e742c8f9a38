/- Layer 26: the document's answer: those that are done, a fault, what is the same; for all channels; no condition. -/
import Derived.Test.YtbamojbkehnmkaaMuxR
import Derived.Test.YtbamojbkehnmkaaEngG
namespace Go.Proofs.Ytbamojbkehnmkaa
set_option linter.all false
set_option maxRecDepth 100000
open Go.RowKit

set_option maxHeartbeats 1000000 in
theorem rFree26_any (x : MX) (w : World) (hx : x.ok w) (hf : Few x.l) : Calls Try.prog 21 #[x.val] w (OwnRR (keepL x.l) w fun A cap => MX.val ⟨A, cap, keepL x.l, x.lim, x.dead⟩) := by
  obtain ⟨A, cap, l, lim, dead⟩ := x
  have hr : RdX CH.cells w A l := hx.rd
  have hf : Few l := hf
  have hlen := few_len hf
  have hby := few_byR hf
  dsimp only
  clear hx
  refine Hs.enter Try.func21 [] [] [] [.g [.v (.slice A l.length cap), .v (.int .u32 lim), .v (.bool dead)]] (Mem.start0 w) (by kernel_rfl) (by kernel_rfl) ?_
  have J : ∀ (d i : Nat), l.length - i = d → i ≤ l.length → ∀ (b0 b1 : Nat) (A2 : Option Addr) (c2 n2 : Nat) (l2 : List CH), l2 = keepL (l.take i) → l2.length = n2 → ∀ (u : Nat → Value), Hs Try.prog 21 (OwnRR (keepL l) w fun A cap => MX.val ⟨A, cap, keepL l, lim, dead⟩) (Try.f21).ntmps w [] [b0, b1, 0] ⟨.no, loopAt Try.f21 0, pins [(1, .c (.p 0 0)), (2, .c (.p 1 0)), (3, .c (.v (.slice A2 n2 c2))), (7, .c (.v (.slice A l.length cap))), (8, .c (.v (.int .i64 l.length))), (9, .c (.v (.int .i64 i)))] (.vals u), [.b true 56 [.v (.slice A l.length cap), .v (.int .u32 lim), .v (.bool dead)], .b true 56 [.v (.slice none 0 0), .v (.int .u32 0), .v (.bool false)], .s A2 c2 n2 61 12 (l2.flatMap CH.cells)]⟩ := by
    intro d
    induction d with
    | zero =>
      intro i hd hi b0 b1 A2 c2 n2 l2 hl2 hn2 u
      obtain rfl : i = l.length := by omega
      rw [List.take_length] at hl2
      subst hl2
      subst hn2
      refine Hs.run0 300 (fun _ => by kernel_rfl) ?_
      refine Hs.condP ((l.length : Int) < (l.length : Int)) (by kernel_rfl) (fun h => by omega) (fun h => ?_)
      refine Hs.run0 300 (fun _ => by kernel_rfl) ?_
      exact Hs.ret (v := MX.val ⟨A2, c2, keepL l, lim, dead⟩) Try.func21 (by kernel_rfl) fun w' H => ⟨A2, c2, rfl, H.only, H.fresh 2 rfl (by kernel_rfl)⟩
    | succ d ih =>
      intro i hd hi b0 b1 A2 c2 n2 l2 hl2 hn2 u
      have hil : i < l.length := by omega
      have hle : n2 ≤ i := by
        rw [← hn2, hl2]
        exact Nat.le_trans (List.length_filter_le _ _) (by rw [List.length_take]; omega)
      obtain ⟨x, hx⟩ : ∃ x, l[i]? = some x := ⟨_, List.getElem?_eq_getElem hil⟩
      have htk : l.take (i + 1) = l.take i ++ [x] := by rw [List.take_add_one, hx]; rfl
      obtain ⟨ab, aoff, hA, _, _⟩ := hr (by omega)
      subst hA
      obtain ⟨x0, x1, x2, x3, x4, x5, b1', b2', b3', b4', x6, b5'⟩ := x
      refine Hs.run0 300 (fun _ => by kernel_rfl) ?_
      refine Hs.condP ((i : Int) < (l.length : Int)) (by kernel_rfl) (fun h => ?_) (fun h => by omega)
      refine Hs.run0 300 (fun _ => by kernel_rfl) ?_
      refine Hs.idx (b := ab) (off := aoff) (c := cap) elemRc hil (by kernel_rfl) ?_
      refine Hs.ldx (E := 61) (b := ab) (off := aoff) (i := i) ch_len (.g (CH.sc ⟨x0, x1, x2, x3, x4, x5, b1', b2', b3', b4', x6, b5'⟩)) (by kernel_rfl) (fun w' H => hr.only H.only) hx (by kernel_rfl) (by kernel_rfl) (by kernel_rfl) (by kernel_rfl) ?_
      refine Hs.run1 300 (fun _ => by kernel_rfl) fun b4 => ?_
      refine Hs.bool 16 (!b2') (by kernel_rfl) (fun h => ?_) (fun h => ?_)
      · obtain rfl : b2' = false := by simpa using h
        refine Hs.rung0 [3] 300 (fun _ => (by kernel_rfl)) ?_
        refine Hs.condT (by kernel_rfl) ?_
        refine Hs.run1 300 (fun _ => by kernel_rfl) fun b5 => ?_
        refine Hs.app (c := 1) (ty := 54) 2 elemRc l2 [(⟨x0, x1, x2, x3, x4, x5, b1', false, b3', b4', x6, b5'⟩ : CH)] n2 1 hn2 rfl ch_one ch_len (A := A2) (B := some ⟨b5, 0, none⟩) (cap := c2) (by kernel_rfl) (by kernel_rfl) (by kernel_rfl) (fun w' H => H.rdB (gs := [(⟨x0, x1, x2, x3, x4, x5, b1', false, b3', b4', x6, b5'⟩ : CH)]) 4 (wr := true) (T := 61) (cs := (CH.cells (⟨x0, x1, x2, x3, x4, x5, b1', false, b3', b4', x6, b5'⟩ : CH)).map SC.v) (by kernel_rfl) rfl) (by omega) (by
          calc (n2 + 1) * Try.prog.bytesOf 61 ≤ l.length * Try.prog.bytesOf 61 := Nat.mul_le_mul_right _ (by omega)
            _ ≤ _ := hby) fun A3 c3 h3 => ?_
        refine Hs.run0 300 (fun _ => by kernel_rfl) ?_
        refine Hs.slot 9 (.c (.v (.int .i64 (i + 1 : Nat)))) rfl ((by kernel_rfl : _ = Value.int .i64 (IntKind.i64.wrap ((i : Int) + 1))).trans (wrap_nextI hlen)) ?_
        refine Hs.loop (by kernel_rfl) ?_
        exact Hs.goto (loopAt Try.f21 0) [0, 1, 2] [.b true 56 [.v (.slice (some ⟨ab, aoff, none⟩) l.length cap), .v (.int .u32 lim), .v (.bool dead)], .b true 56 [.v (.slice none 0 0), .v (.int .u32 0), .v (.bool false)], .s A3 c3 (n2 + 1) 61 12 ((l2 ++ [(⟨x0, x1, x2, x3, x4, x5, b1', false, b3', b4', x6, b5'⟩ : CH)]).flatMap CH.cells)] [(1, .c (.p 0 0)), (2, .c (.p 1 0)), (3, .c (.v (.slice A3 (n2 + 1) c3))), (7, .c (.v (.slice (some ⟨ab, aoff, none⟩) l.length cap))), (8, .c (.v (.int .i64 l.length))), (9, .c (.v (.int .i64 (i + 1 : Nat))))] (by kernel_rfl) (by decide) (by kernel_rfl) (by kernel_rfl) (fun _ => (by kernel_rfl)) (fun u => ih (i + 1) (by omega) (by omega) b0 b1 A3 c3 (n2 + 1) (l2 ++ [(⟨x0, x1, x2, x3, x4, x5, b1', false, b3', b4', x6, b5'⟩ : CH)]) (by rw [hl2, htk]; simp [keepL, List.filter_append, doneP]) (by simp [hn2]) u)
      · obtain rfl : b2' = true := by simpa using h
        refine Hs.rung0 [3] 300 (fun _ => (by kernel_rfl)) ?_
        refine Hs.cond (!b4') (by kernel_rfl) (fun h => ?_) (fun h => ?_)
        · obtain rfl : b4' = false := by simpa using h
          refine Hs.run1 300 (fun _ => by kernel_rfl) fun b5 => ?_
          refine Hs.app (c := 1) (ty := 54) 2 elemRc l2 [(⟨x0, x1, x2, x3, x4, x5, b1', true, b3', false, x6, b5'⟩ : CH)] n2 1 hn2 rfl ch_one ch_len (A := A2) (B := some ⟨b5, 0, none⟩) (cap := c2) (by kernel_rfl) (by kernel_rfl) (by kernel_rfl) (fun w' H => H.rdB (gs := [(⟨x0, x1, x2, x3, x4, x5, b1', true, b3', false, x6, b5'⟩ : CH)]) 4 (wr := true) (T := 61) (cs := (CH.cells (⟨x0, x1, x2, x3, x4, x5, b1', true, b3', false, x6, b5'⟩ : CH)).map SC.v) (by kernel_rfl) rfl) (by omega) (by
            calc (n2 + 1) * Try.prog.bytesOf 61 ≤ l.length * Try.prog.bytesOf 61 := Nat.mul_le_mul_right _ (by omega)
              _ ≤ _ := hby) fun A3 c3 h3 => ?_
          refine Hs.run0 300 (fun _ => by kernel_rfl) ?_
          refine Hs.slot 9 (.c (.v (.int .i64 (i + 1 : Nat)))) rfl ((by kernel_rfl : _ = Value.int .i64 (IntKind.i64.wrap ((i : Int) + 1))).trans (wrap_nextI hlen)) ?_
          refine Hs.loop (by kernel_rfl) ?_
          exact Hs.goto (loopAt Try.f21 0) [0, 1, 2] [.b true 56 [.v (.slice (some ⟨ab, aoff, none⟩) l.length cap), .v (.int .u32 lim), .v (.bool dead)], .b true 56 [.v (.slice none 0 0), .v (.int .u32 0), .v (.bool false)], .s A3 c3 (n2 + 1) 61 12 ((l2 ++ [(⟨x0, x1, x2, x3, x4, x5, b1', true, b3', false, x6, b5'⟩ : CH)]).flatMap CH.cells)] [(1, .c (.p 0 0)), (2, .c (.p 1 0)), (3, .c (.v (.slice A3 (n2 + 1) c3))), (7, .c (.v (.slice (some ⟨ab, aoff, none⟩) l.length cap))), (8, .c (.v (.int .i64 l.length))), (9, .c (.v (.int .i64 (i + 1 : Nat))))] (by kernel_rfl) (by decide) (by kernel_rfl) (by kernel_rfl) (fun _ => (by kernel_rfl)) (fun u => ih (i + 1) (by omega) (by omega) b0 b1 A3 c3 (n2 + 1) (l2 ++ [(⟨x0, x1, x2, x3, x4, x5, b1', true, b3', false, x6, b5'⟩ : CH)]) (by rw [hl2, htk]; simp [keepL, List.filter_append, doneP]) (by simp [hn2]) u)
        · obtain rfl : b4' = true := by simpa using h
          refine Hs.run0 300 (fun _ => by kernel_rfl) ?_
          refine Hs.slot 9 (.c (.v (.int .i64 (i + 1 : Nat)))) rfl ((by kernel_rfl : _ = Value.int .i64 (IntKind.i64.wrap ((i : Int) + 1))).trans (wrap_nextI hlen)) ?_
          refine Hs.loop (by kernel_rfl) ?_
          exact Hs.goto (loopAt Try.f21 0) [0, 1, 2] [.b true 56 [.v (.slice (some ⟨ab, aoff, none⟩) l.length cap), .v (.int .u32 lim), .v (.bool dead)], .b true 56 [.v (.slice none 0 0), .v (.int .u32 0), .v (.bool false)], .s A2 c2 (n2) 61 12 ((l2).flatMap CH.cells)] [(1, .c (.p 0 0)), (2, .c (.p 1 0)), (3, .c (.v (.slice A2 (n2) c2))), (7, .c (.v (.slice (some ⟨ab, aoff, none⟩) l.length cap))), (8, .c (.v (.int .i64 l.length))), (9, .c (.v (.int .i64 (i + 1 : Nat))))] (by kernel_rfl) (by decide) (by kernel_rfl) (by kernel_rfl) (fun _ => (by kernel_rfl)) (fun u => ih (i + 1) (by omega) (by omega) b0 b1 A2 c2 n2 l2 (by rw [hl2, htk]; simp [keepL, List.filter_append, doneP]) hn2 u)
  refine Hs.run2 300 (fun _ => by kernel_rfl) fun b0 b1 => ?_
  refine Hs.nilS 61 12 (by kernel_rfl) ?_ (by kernel_rfl)
  refine Hs.loop (by kernel_rfl) ?_
  exact Hs.goto (loopAt Try.f21 0) [0, 1, 2] [.b true 56 [.v (.slice A l.length cap), .v (.int .u32 lim), .v (.bool dead)], .b true 56 [.v (.slice none 0 0), .v (.int .u32 0), .v (.bool false)], .s none 0 0 61 12 []] [(1, .c (.p 0 0)), (2, .c (.p 1 0)), (3, .c (.v (.slice none 0 0))), (7, .c (.v (.slice A l.length cap))), (8, .c (.v (.int .i64 l.length))), (9, .c (.v (.int .i64 (0 : Nat))))] (by kernel_rfl) (by decide) (by kernel_rfl) (by kernel_rfl) (fun _ => (by kernel_rfl)) (fun u => J _ 0 rfl (by omega) b0 b1 none 0 0 [] (by simp [keepL]) rfl u)
set_option maxHeartbeats 1000000 in
/-- Two that are the same. -/
theorem rSame26_true (A B : Option Addr) (ca cb : Nat) (l : List CH) (lim : Int) (dead : Bool) (w : World) (ha : RdX CH.cells w A l) (hb : RdX CH.cells w B l) (hlen : l.length ≤ maxLen) : Calls Try.prog 17 #[MX.val ⟨A, ca, l, lim, dead⟩, MX.val ⟨B, cb, l, lim, dead⟩] w fun e w' => e = .returned (.bool true) ∧ Only [] w w' := by
  refine Hs.enter Try.func17 [] [] [] [.g (MX.sc ⟨A, ca, l, lim, dead⟩), .g (MX.sc ⟨B, cb, l, lim, dead⟩)] (Mem.start0 w) (by kernel_rfl) (by kernel_rfl) ?_
  have J : ∀ (d i : Nat), l.length - i = d → i ≤ l.length → ∀ (b0 b1 : Nat) (u : Nat → Value), Hs Try.prog 17 (fun e w' => e = .returned (.bool true) ∧ Only [] w w') (Try.f17).ntmps w [] [b0, b1] ⟨.no, loopAt Try.f17 0, pins [(2, .c (.p 0 0)), (3, .c (.p 1 0)), (29, .c (.v (.int .i64 l.length))), (30, .c (.v (.int .i64 (i : Nat))))] (.vals u), [.b true 56 (MX.sc ⟨A, ca, l, lim, dead⟩), .b true 56 (MX.sc ⟨B, cb, l, lim, dead⟩)]⟩ := by
    intro d
    induction d with
    | zero =>
      intro i hd hi b0 b1 u
      refine Hs.run0 300 (fun _ => by kernel_rfl) ?_
      refine Hs.condP ((i : Int) < (l.length : Int)) (by kernel_rfl) (fun h => by omega) (fun h => ?_)
      refine Hs.run0 300 (fun _ => by kernel_rfl) ?_
      exact Hs.ret (v := .bool true) Try.func17 (by kernel_rfl) fun w' H => ⟨rfl, H.only⟩
    | succ d ih =>
      intro i hd hi b0 b1 u
      have hil : i < l.length := by omega
      obtain ⟨x, hx⟩ : ∃ x, l[i]? = some x := ⟨_, List.getElem?_eq_getElem hil⟩
      obtain ⟨ab, aoff, hA, _, _⟩ := ha (by omega)
      obtain ⟨bb, boff, hB, _, _⟩ := hb (by omega)
      subst hA; subst hB
      refine Hs.run0 300 (fun _ => by kernel_rfl) ?_
      refine Hs.condP ((i : Int) < (l.length : Int)) (by kernel_rfl) (fun h => ?_) (fun h => by omega)
      refine Hs.run0 300 (fun _ => by kernel_rfl) ?_
      refine Hs.any [0, 1] (by kernel_rfl) ?_
      refine Hs.run0 300 (fun _ => by kernel_rfl) ?_
      refine Hs.takeIdx (rd := [0, 1]) 3 elemRc (b := ab) (off := aoff) (c := ca) (len := l.length) (i := i) hil (by kernel_rfl) ?_
      refine Hs.takeIdx (rd := [0, 1]) 8 elemRc (b := bb) (off := boff) (c := cb) (len := l.length) (i := i) hil (by kernel_rfl) ?_
      refine Hs.branch2 4 9 (by kernel_rfl) ?_ ?_
      · refine Hs.ldx (E := 61) (b := ab) (off := aoff) (i := i) ch_len (.g x.sc) (by kernel_rfl) (fun w' H => ha.only H.only) hx (by kernel_rfl) (by kernel_rfl) (by kernel_rfl) (by kernel_rfl) ?_
        refine Hs.rung0 [] 1 (fun _ => (by kernel_rfl)) ?_
        refine Hs.ldx (E := 61) (b := bb) (off := boff) (i := i) ch_len (.g x.sc) (by kernel_rfl) (fun w' H => hb.only H.only) hx (by kernel_rfl) (by kernel_rfl) (by kernel_rfl) (by kernel_rfl) ?_
        refine Hs.sel1 10 (by kernel_rfl) ?_
        refine Hs.same (op := .neq) (T := 61) (CH.cells x).toArray false (by kernel_rfl) (.inr ⟨rfl, rfl⟩) (by kernel_rfl) ?_
        refine Hs.run0 300 (fun _ => by kernel_rfl) ?_
        refine Hs.condF (by kernel_rfl) ?_
        refine Hs.run0 300 (fun _ => by kernel_rfl) ?_
        refine Hs.slot 30 (.c (.v (.int .i64 (i + 1 : Nat)))) rfl ((by kernel_rfl : _ = Value.int .i64 (IntKind.i64.wrap ((i : Int) + 1))).trans (wrap_nextI hlen)) ?_
        refine Hs.loop (by kernel_rfl) ?_
        exact Hs.goto (loopAt Try.f17 0) [0, 1] [.b true 56 (MX.sc ⟨some ⟨ab, aoff, none⟩, ca, l, lim, dead⟩), .b true 56 (MX.sc ⟨some ⟨bb, boff, none⟩, cb, l, lim, dead⟩)] [(2, .c (.p 0 0)), (3, .c (.p 1 0)), (29, .c (.v (.int .i64 l.length))), (30, .c (.v (.int .i64 (i + 1 : Nat))))] (by kernel_rfl) (by decide) (by kernel_rfl) (by kernel_rfl) (fun _ => (by kernel_rfl)) (fun u => ih (i + 1) (by omega) (by omega) b0 b1 u)
      · refine Hs.ldx (E := 61) (b := bb) (off := boff) (i := i) ch_len (.g x.sc) (by kernel_rfl) (fun w' H => hb.only H.only) hx (by kernel_rfl) (by kernel_rfl) (by kernel_rfl) (by kernel_rfl) ?_
        refine Hs.rung0 [] 1 (fun _ => (by kernel_rfl)) ?_
        refine Hs.ldx (E := 61) (b := ab) (off := aoff) (i := i) ch_len (.g x.sc) (by kernel_rfl) (fun w' H => ha.only H.only) hx (by kernel_rfl) (by kernel_rfl) (by kernel_rfl) (by kernel_rfl) ?_
        refine Hs.sel1 10 (by kernel_rfl) ?_
        refine Hs.same (op := .neq) (T := 61) (CH.cells x).toArray false (by kernel_rfl) (.inr ⟨rfl, rfl⟩) (by kernel_rfl) ?_
        refine Hs.run0 300 (fun _ => by kernel_rfl) ?_
        refine Hs.condF (by kernel_rfl) ?_
        refine Hs.run0 300 (fun _ => by kernel_rfl) ?_
        refine Hs.slot 30 (.c (.v (.int .i64 (i + 1 : Nat)))) rfl ((by kernel_rfl : _ = Value.int .i64 (IntKind.i64.wrap ((i : Int) + 1))).trans (wrap_nextI hlen)) ?_
        refine Hs.loop (by kernel_rfl) ?_
        exact Hs.goto (loopAt Try.f17 0) [0, 1] [.b true 56 (MX.sc ⟨some ⟨ab, aoff, none⟩, ca, l, lim, dead⟩), .b true 56 (MX.sc ⟨some ⟨bb, boff, none⟩, cb, l, lim, dead⟩)] [(2, .c (.p 0 0)), (3, .c (.p 1 0)), (29, .c (.v (.int .i64 l.length))), (30, .c (.v (.int .i64 (i + 1 : Nat))))] (by kernel_rfl) (by decide) (by kernel_rfl) (by kernel_rfl) (fun _ => (by kernel_rfl)) (fun u => ih (i + 1) (by omega) (by omega) b0 b1 u)
  refine Hs.run2 300 (fun _ => by kernel_rfl) fun b0 b1 => ?_
  refine Hs.bool 11 (lim != lim) (by kernel_rfl) (fun h => by simp at h) (fun _ => ?_)
  refine Hs.rung0 [5] 300 (fun _ => (by kernel_rfl)) ?_
  refine Hs.bool 18 (dead != dead) (by kernel_rfl) (fun h => by simp at h) (fun _ => ?_)
  refine Hs.rung0 [5, 12] 300 (fun _ => (by kernel_rfl)) ?_
  refine Hs.cond ((l.length : Int) != (l.length : Int)) (by kernel_rfl) (fun h => by simp at h) (fun _ => ?_)
  refine Hs.run0 300 (fun _ => by kernel_rfl) ?_
  refine Hs.loop (by kernel_rfl) ?_
  exact Hs.goto (loopAt Try.f17 0) [0, 1] [.b true 56 (MX.sc ⟨A, ca, l, lim, dead⟩), .b true 56 (MX.sc ⟨B, cb, l, lim, dead⟩)] [(2, .c (.p 0 0)), (3, .c (.p 1 0)), (29, .c (.v (.int .i64 l.length))), (30, .c (.v (.int .i64 (0 : Nat))))] (by kernel_rfl) (by decide) (by kernel_rfl) (by kernel_rfl) (fun _ => (by kernel_rfl)) (fun u => J _ 0 rfl (by omega) b0 b1 u)
end Go.Proofs.Ytbamojbkehnmkaa
