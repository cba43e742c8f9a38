/- Layer 26: the document's answer: channels for it, copied, looked up, one changed, those that are done taken out, compared; for all channels; no condition. -/
import Derived.Test.YtbamojbkehnmkaaMuxO
namespace Go.Proofs.Ytbamojbkehnmkaa
set_option linter.all false
set_option maxRecDepth 100000
open Go.RowKit

theorem elemRc : ElemT Try.prog 54 61 12 (Try.prog.bytesOf 61) := elemT_of (z := .agg #[.int .u32 0, .int .u32 0, .int .u32 0, .int .u32 0, .int .u32 0, .int .u32 0, .bool false, .bool false, .bool false, .bool false, .int .i64 0, .bool false]) (by kernel_rfl) (by kernel_rfl) (by decide) (by decide)
theorem by_rc : Try.prog.bytesOf 61 ≤ 100 := of_decide_eq_true (by kernel_rfl)
theorem few_byR {l : List CH} (h : Few l) : l.length * Try.prog.bytesOf 61 ≤ 140737488355328 := by
  have := by_rc
  unfold Few at h
  calc l.length * Try.prog.bytesOf 61 ≤ l.length * 100 := Nat.mul_le_mul_left _ this
    _ ≤ 140737488355328 := by omega
def OwnRR (l : List CH) (w : World) (v : Option Addr → Nat → Value) : Ending → World → Prop := fun e w' => ∃ A cap, e = .returned (v A cap) ∧ Only [] w w' ∧ OwnX CH.cells 61 12 w' w.heap.size (.slice A l.length cap) l
theorem from25_any (c : CH) (w : World) : Calls Try.prog 16 #[c.val] w fun e w' => e = .returned c.val ∧ Only [] w w' := by
  refine Hs.enter Try.func16 [] [] [] [.g c.sc] (Mem.start0 w) (by kernel_rfl) (by kernel_rfl) ?_
  refine Hs.run2 300 (fun _ => by kernel_rfl) fun b0 b1 => ?_
  exact Hs.ret (v := c.val) Try.func16 (by kernel_rfl) fun w' H => ⟨rfl, H.only⟩
set_option maxHeartbeats 1000000 in
theorem from26_any (x : MX) (w : World) (hx : x.ok w) (hf : Few x.l) : Calls Try.prog 12 #[x.val] w (OwnRR x.l w fun A cap => MX.val ⟨A, cap, x.l, x.lim, x.dead⟩) := by
  obtain ⟨A, cap, l, lim, dead⟩ := x
  have hr : RdX CH.cells w A l := hx.rd
  have hf : Few l := hf
  have hlen := few_len hf
  have hby := few_byR hf
  dsimp only
  clear hx
  refine Hs.enter Try.func12 [] [] [] [.g [.v (.slice A l.length cap), .v (.int .u32 lim), .v (.bool dead)]] (Mem.start0 w) (by kernel_rfl) (by kernel_rfl) ?_
  have J : ∀ (d i : Nat), l.length - i = d → i ≤ l.length → ∀ (b0 b1 b2 : Nat) (A2 : Option Addr) (c2 : Nat) (l2 : List CH), l2 = l.take i → ∀ (u : Nat → Value), Hs Try.prog 12 (OwnRR l w fun A cap => MX.val ⟨A, cap, l, lim, dead⟩) (Try.f12).ntmps w [] [b0, b1, b2, 0] ⟨.no, loopAt Try.f12 0, pins [(1, .c (.p 0 0)), (2, .c (.p 1 0)), (3, .c (.p 2 0)), (12, .c (.v (.slice A l.length cap))), (13, .c (.v (.int .i64 l.length))), (14, .c (.v (.int .i64 i)))] (.vals u), [.b true 34 [.v (.slice A l.length cap), .v (.int .u32 lim), .v (.bool dead)], .b true 56 [.v (.slice none 0 0), .v (.int .u32 0), .v (.bool false)], .b true 56 [.v (.slice A2 i c2), .v (.int .u32 lim), .v (.bool dead)], .s A2 c2 i 61 12 (l2.flatMap CH.cells)]⟩ := by
    intro d
    induction d with
    | zero =>
      intro i hd hi b0 b1 b2 A2 c2 l2 hl2 u
      obtain rfl : i = l.length := by omega
      rw [List.take_length] at hl2
      subst hl2
      refine Hs.run0 300 (fun _ => by kernel_rfl) ?_
      refine Hs.condP ((l2.length : Int) < (l2.length : Int)) (by kernel_rfl) (fun h => by omega) (fun h => ?_)
      refine Hs.run0 300 (fun _ => by kernel_rfl) ?_
      exact Hs.ret (v := MX.val ⟨A2, c2, l2, lim, dead⟩) Try.func12 (by kernel_rfl) fun w' H => ⟨A2, c2, rfl, H.only, H.fresh 3 rfl (by kernel_rfl)⟩
    | succ d ih =>
      intro i hd hi b0 b1 b2 A2 c2 l2 hl2 u
      have hil : i < l.length := by omega
      have hl2n : l2.length = i := by rw [hl2, List.length_take]; omega
      obtain ⟨x, hx⟩ : ∃ x, l[i]? = some x := ⟨_, List.getElem?_eq_getElem hil⟩
      obtain ⟨ab, aoff, hA, _, _⟩ := hr (by omega)
      subst hA
      refine Hs.run0 300 (fun _ => by kernel_rfl) ?_
      refine Hs.condP ((i : Int) < (l.length : Int)) (by kernel_rfl) (fun h => ?_) (fun h => by omega)
      refine Hs.run0 300 (fun _ => by kernel_rfl) ?_
      refine Hs.idx (b := ab) (off := aoff) (c := cap) elemCh hil (by kernel_rfl) ?_
      refine Hs.ldx (E := 45) (b := ab) (off := aoff) (i := i) ch_len (.g x.sc) (by kernel_rfl) (fun w' H => hr.only H.only) hx (by kernel_rfl) (by kernel_rfl) (by kernel_rfl) (by kernel_rfl) ?_
      refine Hs.run1 300 (fun _ => by kernel_rfl) fun b4 => ?_
      refine Hs.any [2, 4, 1007] (by kernel_rfl) ?_
      refine Hs.run0 300 (fun _ => by kernel_rfl) ?_
      refine Hs.callV (fun w' H => from25_any x w') (by kernel_rfl) ?_
      refine Hs.run1 300 (fun _ => by kernel_rfl) fun b5 => ?_
      refine Hs.app (c := 1) (ty := 54) 3 elemRc l2 [x] i 1 hl2n rfl ch_one ch_len (A := A2) (B := some ⟨b5, 0, none⟩) (cap := c2) (by kernel_rfl) (by kernel_rfl) (by kernel_rfl) (fun w' H => H.rdB (gs := [x]) 5 (wr := true) (T := 61) (cs := x.cells.map SC.v) (by kernel_rfl) rfl) (by omega) (by
        calc (i + 1) * Try.prog.bytesOf 61 ≤ l.length * Try.prog.bytesOf 61 := Nat.mul_le_mul_right _ (by omega)
          _ ≤ _ := hby) fun A3 c3 h3 => ?_
      refine Hs.run0 300 (fun _ => by kernel_rfl) ?_
      refine Hs.slot 14 (.c (.v (.int .i64 (i + 1 : Nat)))) rfl ((by kernel_rfl : _ = Value.int .i64 (IntKind.i64.wrap ((i : Int) + 1))).trans (wrap_nextI hlen)) ?_
      refine Hs.loop (by kernel_rfl) ?_
      exact Hs.goto (loopAt Try.f12 0) [0, 1, 2, 3] [.b true 34 [.v (.slice (some ⟨ab, aoff, none⟩) l.length cap), .v (.int .u32 lim), .v (.bool dead)], .b true 56 [.v (.slice none 0 0), .v (.int .u32 0), .v (.bool false)], .b true 56 [.v (.slice A3 (i + 1) c3), .v (.int .u32 lim), .v (.bool dead)], .s A3 c3 (i + 1) 61 12 ((l2 ++ [x]).flatMap CH.cells)] [(1, .c (.p 0 0)), (2, .c (.p 1 0)), (3, .c (.p 2 0)), (12, .c (.v (.slice (some ⟨ab, aoff, none⟩) l.length cap))), (13, .c (.v (.int .i64 l.length))), (14, .c (.v (.int .i64 (i + 1 : Nat))))] (by kernel_rfl) (by decide) (by kernel_rfl) (by kernel_rfl) (fun _ => (by kernel_rfl)) (fun u => ih (i + 1) (by omega) (by omega) b0 b1 b2 A3 c3 (l2 ++ [x]) (by rw [hl2, List.take_add_one, hx]; rfl) u)
  refine Hs.run3 300 (fun _ => by kernel_rfl) fun b0 b1 b2 => ?_
  refine Hs.nilS 61 12 (by kernel_rfl) ?_ (by kernel_rfl)
  refine Hs.loop (by kernel_rfl) ?_
  exact Hs.goto (loopAt Try.f12 0) [0, 1, 2, 3] [.b true 34 [.v (.slice A l.length cap), .v (.int .u32 lim), .v (.bool dead)], .b true 56 [.v (.slice none 0 0), .v (.int .u32 0), .v (.bool false)], .b true 56 [.v (.slice none 0 0), .v (.int .u32 lim), .v (.bool dead)], .s none 0 0 61 12 []] [(1, .c (.p 0 0)), (2, .c (.p 1 0)), (3, .c (.p 2 0)), (12, .c (.v (.slice A l.length cap))), (13, .c (.v (.int .i64 l.length))), (14, .c (.v (.int .i64 (0 : Nat))))] (by kernel_rfl) (by decide) (by kernel_rfl) (by kernel_rfl) (fun _ => (by kernel_rfl)) (fun u => J _ 0 rfl (by omega) b0 b1 b2 none 0 [] (by simp) u)
theorem rCopy26_any (x : MX) (w : World) (hx : x.ok w) (hf : Few x.l) : Calls Try.prog 31 #[x.val] w (OwnRR x.l w fun A cap => MX.val ⟨A, cap, x.l, x.lim, x.dead⟩) := by
  refine Hs.enter Try.func31 [] [] [] [.g x.sc] (Mem.start0 w) (by kernel_rfl) (by kernel_rfl) ?_
  refine Hs.run3 300 (fun _ => by kernel_rfl) fun b0 b1 b2 => ?_
  refine Hs.litX (ty := 54) (c := x.cap) 2 elemRc x.l x.l.length rfl ch_one ch_len (by kernel_rfl) (by kernel_rfl) (by kernel_rfl) (fun w' H => hx.rd.only H.only) (few_len hf) (few_byR hf) fun A' cap' h1 h2 => ?_
  refine Hs.run0 300 (fun _ => by kernel_rfl) ?_
  exact Hs.ret (v := MX.val ⟨A', cap', x.l, x.lim, x.dead⟩) Try.func31 (by kernel_rfl) fun w' H => ⟨A', cap', rfl, H.only, H.fresh 2 rfl (by kernel_rfl)⟩
theorem rPlace26_any (x : MX) (k : Int) (w : World) (hx : x.ok w) : Calls Try.prog 30 #[x.val, .int .u32 k] w fun e w' => e = .returned (.int .i64 (ixI (locP k) x.l)) ∧ Only [] w w' := by
  obtain ⟨A, cap, l, lim, dead⟩ := x
  have hr : RdX CH.cells w A l := hx.rd
  have hn : l.length ≤ maxLen := Nat.le_trans hx.len hx.cap
  dsimp only
  clear hx
  refine Hs.enter Try.func30 [] [] [] [.g (MX.sc ⟨A, cap, l, lim, dead⟩), .c (.v (.int .u32 k))] (Mem.start0 w) (by kernel_rfl) (by kernel_rfl) ?_
  have J : ∀ (d i : Nat), l.length - i = d → i ≤ l.length → (∀ j x, j < i → l[j]? = some x → locP k x = false) → ∀ (u : Nat → Value), Hs Try.prog 30 (fun e w' => e = .returned (.int .i64 (ixI (locP k) l)) ∧ Only [] w w') (Try.f30).ntmps w [] [] ⟨.no, loopAt Try.f30 0, pins [(1, .c (.v (.int .u32 k))), (8, .c (.v (.slice A l.length cap))), (9, .c (.v (.int .i64 l.length))), (10, .c (.v (.int .i64 (i : Nat))))] (.vals u), []⟩ := by
    intro d
    induction d with
    | zero =>
      intro i hd hi hj u
      refine Hs.run0 300 (fun _ => by kernel_rfl) ?_
      refine Hs.condP ((i : Int) < (l.length : Int)) (by kernel_rfl) (fun h => by omega) (fun h => ?_)
      have e : ixI (locP k) l = -1 := ixI_none fun x hx => by
        obtain ⟨j, hj1, hj2⟩ := List.mem_iff_getElem.1 hx
        exact hj j x (by omega) (by rw [List.getElem?_eq_getElem hj1, hj2])
      rw [e]
      refine Hs.run0 300 (fun _ => by kernel_rfl) ?_
      exact Hs.ret (v := .int .i64 (-1)) Try.func30 (by kernel_rfl) fun w' H => ⟨rfl, H.only⟩
    | succ d ih =>
      intro i hd hi hj u
      have hil : i < l.length := by omega
      obtain ⟨x, hx⟩ : ∃ x, l[i]? = some x := ⟨_, List.getElem?_eq_getElem hil⟩
      obtain ⟨ab, aoff, hA, _, _⟩ := hr (by omega)
      subst hA
      refine Hs.run0 300 (fun _ => by kernel_rfl) ?_
      refine Hs.condP ((i : Int) < (l.length : Int)) (by kernel_rfl) (fun h => ?_) (fun h => by omega)
      refine Hs.run0 300 (fun _ => by kernel_rfl) ?_
      refine Hs.idx (b := ab) (off := aoff) (c := cap) elemRc hil (by kernel_rfl) ?_
      refine Hs.ldx (E := 61) (b := ab) (off := aoff) (i := i) ch_len (.g x.sc) (by kernel_rfl) (fun w' H => hr.only H.only) hx (by kernel_rfl) (by kernel_rfl) (by kernel_rfl) (by kernel_rfl) ?_
      refine Hs.run1 300 (fun _ => by kernel_rfl) fun b1 => ?_
      refine Hs.cond (locP k x) (by kernel_rfl) (fun hp => ?_) (fun hp => ?_)
      · rw [ixI_at hj hx hp]
        refine Hs.run0 300 (fun _ => by kernel_rfl) ?_
        exact Hs.ret (v := .int .i64 (i : Nat)) Try.func30 (by kernel_rfl) fun w' H => ⟨rfl, H.only⟩
      refine Hs.run0 300 (fun _ => by kernel_rfl) ?_
      refine Hs.slot 10 (.c (.v (.int .i64 (i + 1 : Nat)))) rfl ((by kernel_rfl : _ = Value.int .i64 (IntKind.i64.wrap ((i : Int) + 1))).trans (wrap_nextI hn)) ?_
      refine Hs.loop (by kernel_rfl) ?_
      exact Hs.goto (loopAt Try.f30 0) [] [] [(1, .c (.v (.int .u32 k))), (8, .c (.v (.slice (some ⟨ab, aoff, none⟩) l.length cap))), (9, .c (.v (.int .i64 l.length))), (10, .c (.v (.int .i64 (i + 1 : Nat))))] (by kernel_rfl) (by decide) (by kernel_rfl) (by kernel_rfl) (fun _ => (by kernel_rfl)) (fun u => ih (i + 1) (by omega) (by omega) (fun j y hlt hy => by
        rcases Nat.lt_or_ge j i with h1 | h1
        · exact hj j y h1 hy
        · obtain rfl : j = i := by omega
          rw [hx] at hy; injection hy with hy; subst hy; exact hp) u)
  refine Hs.run1 300 (fun _ => by kernel_rfl) fun b0 => ?_
  refine Hs.loop (by kernel_rfl) ?_
  exact Hs.goto (loopAt Try.f30 0) [] [] [(1, .c (.v (.int .u32 k))), (8, .c (.v (.slice A l.length cap))), (9, .c (.v (.int .i64 l.length))), (10, .c (.v (.int .i64 (0 : Nat))))] (by kernel_rfl) (by decide) (by kernel_rfl) (by kernel_rfl) (fun _ => (by kernel_rfl)) (fun u => J _ 0 rfl (by omega) (fun j x h => by omega) u)
theorem rGet26_any (x : MX) (k : Int) (w : World) (hx : x.ok w) : Calls Try.prog 13 #[x.val, .int .u32 k] w fun e w' => e = .returned (.tuple #[(getL k x.l).1.val, .bool (getL k x.l).2]) ∧ Only [] w w' := by
  obtain ⟨r, hr⟩ : ∃ r, r = getL k x.l := ⟨_, rfl⟩
  rw [← hr]
  refine Hs.enter Try.func13 [] [] [] [.g x.sc, .c (.v (.int .u32 k))] (Mem.start0 w) (by kernel_rfl) (by kernel_rfl) ?_
  refine Hs.run2 300 (fun _ => by kernel_rfl) fun b0 b1 => ?_
  refine Hs.callV (fun w' H => rPlace26_any x k w' (hx.only H.only)) (by kernel_rfl) ?_
  refine Hs.run0 300 (fun _ => by kernel_rfl) ?_
  refine Hs.condP (ixI (locP k) x.l < 0) (by kernel_rfl) (fun h => ?_) (fun h => ?_)
  · have e : r = (CH.zero, false) := by
      rw [hr]; unfold getL
      split
      · rw [if_pos h]
      · rfl
    subst e
    refine Hs.run0 300 (fun _ => by kernel_rfl) ?_
    exact Hs.ret (v := .tuple #[CH.zero.val, .bool false]) Try.func13 (by kernel_rfl) fun w' H => ⟨rfl, H.only⟩
  obtain ⟨c, h1, _⟩ := ixI_get (p := locP k) (l := x.l) (by omega)
  have e : r = (c, true) := by
    rw [hr]; unfold getL; rw [h1]
    show (if _ then _ else _) = _
    rw [if_neg h]
  subst e
  clear hr
  have hlt := (List.getElem?_eq_some_iff.1 h1).1
  obtain ⟨i, hi⟩ : ∃ i : Nat, ixI (locP k) x.l = i := ⟨(ixI (locP k) x.l).toNat, by omega⟩
  rw [hi, Int.toNat_natCast] at h1
  rw [hi, Int.toNat_natCast] at hlt
  obtain ⟨A, cap, l, lim, dead⟩ := x
  have hrd := hx.rd
  dsimp only at hrd hlt h1 hi
  obtain ⟨ab, aoff, hA, _, _⟩ := hrd (by omega)
  subst hA
  refine Hs.run0 300 (fun _ => by kernel_rfl) ?_
  refine Hs.slot 15 (.c (.v (.int .i64 i))) rfl ((by kernel_rfl : _ = Value.int .i64 (ixI (locP k) l)).trans (congrArg (Value.int .i64) hi)) ?_
  refine Hs.idx (b := ab) (off := aoff) (c := cap) elemRc hlt (by kernel_rfl) ?_
  refine Hs.ldx (E := 61) (b := ab) (off := aoff) (i := i) ch_len (.g c.sc) (by kernel_rfl) (fun w' H => hrd.only H.only) h1 (by kernel_rfl) (by kernel_rfl) (by kernel_rfl) (by kernel_rfl) ?_
  refine Hs.run0 300 (fun _ => by kernel_rfl) ?_
  exact Hs.ret (v := .tuple #[c.val, .bool true]) Try.func13 (by kernel_rfl) fun w' H => ⟨rfl, H.only⟩
theorem rSet26_any (x : MX) (c : CH) (w : World) (hx : x.ok w) (hf : Few x.l) : Calls Try.prog 20 #[x.val, c.val] w (OwnRR (setL c x.l) w fun A cap => MX.val ⟨A, cap, setL c x.l, x.lim, x.dead⟩) := by
  refine Hs.enter Try.func20 [] [] [] [.g x.sc, .g c.sc] (Mem.start0 w) (by kernel_rfl) (by kernel_rfl) ?_
  refine Hs.run3 300 (fun _ => by kernel_rfl) fun b0 b1 b2 => ?_
  refine Hs.callS (cf := CH.cells) (E := 61) (size := 12) (fun A cap => MX.val ⟨A, cap, x.l, x.lim, x.dead⟩) x.l x.l.length rfl (fun w' H => rCopy26_any x w' (hx.only H.only) hf) (by kernel_rfl) (by kernel_rfl) fun A cap h1 h2 => ?_
  refine Hs.run0 300 (fun _ => by kernel_rfl) ?_
  refine Hs.callV (fun w' H => rPlace26_any ⟨A, cap, x.l, x.lim, x.dead⟩ c.loc w' ⟨H.rdX 3 (A := A) (cap := cap) (E := 61) (size := 12) rfl (by kernel_rfl), h1, h2, hx.chs, hx.lim⟩) (by kernel_rfl) ?_
  refine Hs.run0 300 (fun _ => by kernel_rfl) ?_
  refine Hs.condP (ixI (locP c.loc) x.l ≥ 0) (by kernel_rfl) (fun h => ?_) (fun h => ?_)
  · obtain ⟨i, hi⟩ : ∃ i : Nat, ixI (locP c.loc) x.l = i := ⟨(ixI (locP c.loc) x.l).toNat, by omega⟩
    have hlt := (ixI_lo (locP c.loc) x.l).2
    rw [hi] at hlt
    have e : setL c x.l = x.l.set i c := by unfold setL; rw [if_neg (by omega), hi, Int.toNat_natCast]
    rw [e]
    refine Hs.someS (A := A) (cap := cap) (nl := x.l.length) (E := 61) (size := 12) (vs := x.l.flatMap CH.cells) 3 (by kernel_rfl) (by omega) fun g hA => ?_
    subst hA
    refine Hs.run0 300 (fun _ => by kernel_rfl) ?_
    refine Hs.slot 16 (.c (.v (.int .i64 i))) rfl ((by kernel_rfl : _ = Value.int .i64 (ixI (locP c.loc) x.l)).trans (congrArg (Value.int .i64) hi)) ?_
    refine Hs.idx (b := g) (off := 0) (c := cap) (len := x.l.length) (i := i) elemRc (by omega) (by kernel_rfl) ?_
    refine Hs.stx (E := 61) (g := g) (cap := cap) (E' := 61) 3 ch_len ch_one x.l x.l.length rfl i (by omega) c (v := c.val) rfl (by kernel_rfl) (by kernel_rfl) (by kernel_rfl) (by kernel_rfl) ?_
    refine Hs.run0 300 (fun _ => by kernel_rfl) ?_
    have hl := setL_len c x.l
    rw [e] at hl
    exact Hs.ret (v := .agg #[.slice (some ⟨g, 0, none⟩) x.l.length cap, .int .u32 x.lim, .bool x.dead]) Try.func20 (by kernel_rfl) fun w' H => ⟨some ⟨g, 0, none⟩, cap, by simp only [MX.val, hl], H.only, by rw [hl]; exact H.fresh 3 hl (by kernel_rfl)⟩
  · have e : setL c x.l = x.l := by unfold setL; rw [if_pos (by omega)]
    rw [e]
    refine Hs.run0 300 (fun _ => by kernel_rfl) ?_
    exact Hs.ret (v := MX.val ⟨A, cap, x.l, x.lim, x.dead⟩) Try.func20 (by kernel_rfl) fun w' H => ⟨A, cap, rfl, H.only, H.fresh 3 rfl (by kernel_rfl)⟩
end Go.Proofs.Ytbamojbkehnmkaa
