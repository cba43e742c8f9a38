/- Layer 26: Take: what comes for a channel, again; for all channels and messages; no condition. -/
import Derived.Test.YtbamojbkehnmkaaMuxH
namespace Go.Proofs.Ytbamojbkehnmkaa
set_option linter.all false
set_option maxRecDepth 100000
open Go.RowKit

set_option maxHeartbeats 2000000 in
theorem take_comes_ended (xA : Option Addr) (xcap : Nat) (l : List CH) (lim : Int) (m : MD) (w : World) (hx : MX.ok w ⟨xA, xcap, l, lim, false⟩) (hf : Few l) (hk : m.kind = 96) (hm : MIn w m) : Calls Try.prog 9 #[MX.val ⟨xA, xcap, l, lim, false⟩, m.val] w (MTakeP ⟨xA, xcap, l, lim, false⟩ (comesR l m 3) w) := by
  have hx' : MX.ok w ⟨xA, xcap, l, lim, false⟩ := hx
  refine Hs.enter Try.func9 [] [] [] [.g (MX.sc ⟨xA, xcap, l, lim, false⟩), .g m.sc] (Mem.start0 w) (by kernel_rfl) (by kernel_rfl) ?_
  refine Hs.run3 300 (fun _ => by kernel_rfl) fun b0 b1 b2 => ?_
  refine Hs.callS (cf := CH.cells) (E := 45) (size := 12) (fun A cap => MX.val ⟨A, cap, l, lim, false⟩) l l.length rfl (fun w' H => twin_any ⟨xA, xcap, l, lim, false⟩ w' (hx.only H.only) hf) (by kernel_rfl) (by kernel_rfl) fun A cap h1 h2 => ?_
  refine Hs.run1 300 (fun _ => by kernel_rfl) fun b4 => ?_
  refine Hs.condF (by kernel_rfl) ?_
  refine Hs.nilS 28 10 (by kernel_rfl) ?_ (by kernel_rfl)
  refine Hs.nilS 77 6 (by kernel_rfl) ?_ (by kernel_rfl)
  refine Hs.run0 300 (fun _ => by kernel_rfl) ?_
  refine Hs.any [1] (by kernel_rfl) ?_
  refine Hs.run0 300 (fun _ => by kernel_rfl) ?_
  refine Hs.callQ (X := Nat) (fun r => some ⟨r, 0, none⟩) (fun r => .map (some r)) (fun r w' => MapM (kI .i64) w' r kindsL) (fun r => MapM.st) (fun w' H => kinds_any w') (by kernel_rfl) (by kernel_rfl) fun r => ?_
  refine Hs.run0 300 (fun _ => by kernel_rfl) ?_
  refine Hs.getM (r := r) (es := kindsL) keyK m.kind true (.tuple #[.func (.func 39) #[] #[], .bool true]) (by rw [hk]; rfl) (by kernel_rfl) (fun w' H => H.mapM 7 (by kernel_rfl)) ?_
  refine Hs.run0 300 (fun _ => by kernel_rfl) ?_
  refine Hs.condF (by kernel_rfl) ?_
  refine Hs.run0 300 (fun _ => by kernel_rfl) ?_
  refine Hs.inl Try.func39 [.c (.p 4 0), .g m.sc] (by kernel_rfl) (by kernel_rfl) ?_
  refine Hs.run1 300 (fun _ => by kernel_rfl) fun b8 => ?_
  refine Hs.inl Try.func53 [.c (.p 4 0), .g m.sc, .c (.v (EV.val (⟨3, 0, 0, ⟨#[]⟩, false, none, 0, 0⟩ : EV)))] (by kernel_rfl) (by kernel_rfl) ?_
  refine Hs.run2 300 (fun _ => by kernel_rfl) fun b9 b10 => ?_
  refine Hs.any [4, 9] (by kernel_rfl) ?_
  refine Hs.run0 300 (fun _ => by kernel_rfl) ?_
  refine Hs.callV (fun w' H => find_any ⟨A, cap, l, lim, false⟩ m.chan w' ⟨H.rdX 3 (A := A) (cap := cap) (E := 45) (size := 12) rfl (by kernel_rfl), h1, h2, hx.chs, hx.lim⟩) (by kernel_rfl) ?_
  refine Hs.run0 300 (fun _ => by kernel_rfl) ?_
  refine Hs.condP (ixI (locP m.chan) l < 0) (by kernel_rfl) (fun hi => ?_) (fun hi => ?_)
  · have e : comesR l m 3 = wrongR l 8 := by
      unfold comesR
      split
      · rfl
      · rw [if_pos hi]
    rw [e]
    refine Hs.run0 300 (fun _ => by kernel_rfl) ?_
    refine Hs.inl Try.func42 [.c (.p 4 0), .c (.v (.int .i64 8))] (by kernel_rfl) (by kernel_rfl) ?_
    refine Hs.run0 300 (fun _ => by kernel_rfl) ?_
    refine Hs.inl Try.func14 [.g (MX.sc ⟨A, cap, l, lim, false⟩)] (by kernel_rfl) (by kernel_rfl) ?_
    refine Hs.run2 300 (fun _ => by kernel_rfl) fun p0 p1 => ?_
    refine Hs.callS (cf := CH.cells) (E := 45) (size := 12) (fun A cap => MX.val ⟨A, cap, l, lim, false⟩) (l) (l).length rfl (fun w' H => twin_any ⟨A, cap, l, lim, false⟩ w' ⟨H.rdX 3 (A := A) (cap := cap) (E := 45) (size := 12) rfl (by kernel_rfl), h1, h2, hx.chs, hx.lim⟩ hf) (by kernel_rfl) (by kernel_rfl) fun A2 cap2 h3 h4 => ?_
    refine Hs.run0 300 (fun _ => by kernel_rfl) ?_
    refine Hs.condF (by kernel_rfl) ?_
    refine Hs.run1 300 (fun _ => by kernel_rfl) fun p3 => ?_
    refine Hs.mark 14 26 5 protoB 14 Try.underlying26 Try.underlying5 (by kernel_rfl) (by kernel_rfl) (by kernel_rfl) ?_
    refine Hs.run1 300 (fun _ => by kernel_rfl) fun p4 => ?_
    refine Hs.retI Try.func14 (by kernel_rfl) (by kernel_rfl) (by kernel_rfl) ?_
    refine Hs.run0 300 (fun _ => by kernel_rfl) ?_
    refine Hs.retI Try.func42 (by kernel_rfl) (by kernel_rfl) (by kernel_rfl) ?_
    refine Hs.run0 300 (fun _ => by kernel_rfl) ?_
    refine Hs.retI Try.func53 (by kernel_rfl) (by kernel_rfl) (by kernel_rfl) ?_
    refine Hs.run0 300 (fun _ => by kernel_rfl) ?_
    refine Hs.retI Try.func39 (by kernel_rfl) (by kernel_rfl) (by kernel_rfl) ?_
    refine Hs.run0 300 (fun _ => by kernel_rfl) ?_
    refine Hs.any [4] (by kernel_rfl) ?_
    refine Hs.run0 300 (fun _ => by kernel_rfl) ?_
    exact Hs.ret (v := .tuple #[MX.val ⟨A2, cap2, l, lim, true⟩, .slice (some ⟨p4, 0, none⟩) 1 1, .slice none 0 0, .int .i64 8]) Try.func9 (by kernel_rfl) fun w' H => ⟨A2, cap2, some ⟨p4, 0, none⟩, 1, none, 0, rfl, H.only, ⟨H.fresh 13 rfl (by kernel_rfl), ⟨[faultM p3], rfl, H.freshB 15 [faultM p3] rfl (by kernel_rfl : _ = some (HB.b true 28 ((faultM p3).row.map SC.v))) rfl mdr_len (show 1 ≤ maxLen by decide)⟩, ⟨[], rfl, H.fresh 6 rfl (by kernel_rfl)⟩⟩⟩
  obtain ⟨c, hc1, _⟩ := ixI_get (p := locP m.chan) (l := l) (by omega)
  have hlt := (List.getElem?_eq_some_iff.1 hc1).1
  obtain ⟨i0, hi0⟩ : ∃ i : Nat, ixI (locP m.chan) l = i := ⟨(ixI (locP m.chan) l).toNat, by omega⟩
  have e : comesR l m 3 = if (recvC c m.kind m.window m.want m.data.length).2 ≠ 0 then wrongR l (recvC c m.kind m.window m.want m.data.length).2 else ⟨l.set i0 (recvC c m.kind m.window m.want m.data.length).1, false, [], [3], 0⟩ := by
    unfold comesR
    rw [hc1]
    dsimp only
    rw [if_neg hi]
    simp only [hi0, Int.toNat_natCast]
  rw [e]
  clear e
  rw [hi0, Int.toNat_natCast] at hc1 hlt
  have hcm : c ∈ l := List.mem_of_getElem? hc1
  have RC := fun w' => chRecv_any c m w' (hx.chs c hcm) hm.win (by have := hm.few; unfold maxLen; omega)
  obtain ⟨r0, hre⟩ : ∃ r0, r0 = recvC c m.kind m.window m.want m.data.length := ⟨_, rfl⟩
  rw [← hre] at RC ⊢
  clear hre
  obtain ⟨d, E⟩ := r0
  dsimp only at RC ⊢
  refine Hs.someS (A := A) (cap := cap) (nl := l.length) (E := 45) (size := 12) (vs := l.flatMap CH.cells) 3 (by kernel_rfl) (by omega) fun g hA => ?_
  subst hA
  refine Hs.run0 300 (fun _ => by kernel_rfl) ?_
  refine Hs.slot 6 (.c (.v (.int .i64 i0))) rfl ((by kernel_rfl : _ = Value.int .i64 (ixI (locP m.chan) l)).trans (congrArg (Value.int .i64) hi0)) ?_
  refine Hs.cut (ι := Nat × (Nat → Value)) (fun i => ([b0, b1, b2, 0, b4, 0, 0, 0, b8, b9, b10, i.1], ⟨.no, afterR Try.f53 4, pins [(0, .c (.p 4 0)), (5, .c (.p 10 0)), (6, .c (.v (.int .i64 i0))), (7, .c (.p 11 0)), (8, .c (.v (.int .i64 E)))] (.vals i.2), [.b true 34 (MX.sc ⟨xA, xcap, l, lim, false⟩), .b true 28 m.sc, .b true 34 [.v (.slice none 0 0), .v (.int .u32 0), .v (.bool false)], .s (some ⟨g, 0, none⟩) cap l.length 45 12 (l.flatMap CH.cells), .b true 81 (TK.sc ⟨⟨some ⟨g, 0, none⟩, cap, l, lim, false⟩, .slice none 0 0, .slice none 0 0, 0⟩), .s none 0 0 28 10 [], .s none 0 0 77 6 [], .q true (some ⟨r, 0, none⟩) (fun w' => MapM (kI .i64) w' r kindsL) MapM.st, .b true 28 m.sc, .b true 28 m.sc, .b true 77 (EV.sc (⟨3, 0, 0, ⟨#[]⟩, false, none, 0, 0⟩ : EV)), .b true 45 (CH.sc d)]⟩)) (fun K => ?_) (fun i => ?_)
  · refine Hs.any [3, 4, 9] (by kernel_rfl) ?_
    refine Hs.run0 300 (fun _ => by kernel_rfl) ?_
    refine Hs.takeIdx (rd := [3, 4, 9]) 6 elemCh (b := g) (off := 0) (c := cap) (len := l.length) (i := i0) hlt (by kernel_rfl) ?_
    refine Hs.takeLdS (rd := [3, 4, 9]) (E := 45) 7 3 ch_len (E' := 45) (g := g) (i := i0) (cap := cap) (nl := l.length) (l := l) (x := c) (.g c.sc) (by kernel_rfl) (by kernel_rfl) (by kernel_rfl) rfl hc1 (by kernel_rfl) (by kernel_rfl) (by kernel_rfl) (by kernel_rfl) ?_
    refine Hs.run0 300 (fun _ => by kernel_rfl) ?_
    refine Hs.branch2 9 13 (by kernel_rfl) ?_ ?_
    · refine Hs.callV (fun w' H => RC w') (by kernel_rfl) ?_
      refine Hs.runU1 (afterR Try.f53 4).length [] 300 (fun _ => by kernel_rfl) fun b11 => ?_
      exact Hs.goto (afterR Try.f53 4) [0, 1, 2, 3, 4, 5, 6, 7, 8, 9, 10, 11] [.b true 34 (MX.sc ⟨xA, xcap, l, lim, false⟩), .b true 28 m.sc, .b true 34 [.v (.slice none 0 0), .v (.int .u32 0), .v (.bool false)], .s (some ⟨g, 0, none⟩) cap l.length 45 12 (l.flatMap CH.cells), .b true 81 (TK.sc ⟨⟨some ⟨g, 0, none⟩, cap, l, lim, false⟩, .slice none 0 0, .slice none 0 0, 0⟩), .s none 0 0 28 10 [], .s none 0 0 77 6 [], .q true (some ⟨r, 0, none⟩) (fun w' => MapM (kI .i64) w' r kindsL) MapM.st, .b true 28 m.sc, .b true 28 m.sc, .b true 77 (EV.sc (⟨3, 0, 0, ⟨#[]⟩, false, none, 0, 0⟩ : EV)), .b true 45 (CH.sc d)] [(0, .c (.p 4 0)), (5, .c (.p 10 0)), (6, .c (.v (.int .i64 i0))), (7, .c (.p 11 0)), (8, .c (.v (.int .i64 E)))] (by kernel_rfl) (by decide) (by kernel_rfl) (by kernel_rfl) (fun _ => (by kernel_rfl)) (fun u => K (b11, u))
    · refine Hs.run1 300 (fun _ => by kernel_rfl) fun b11 => ?_
      refine Hs.callV (fun w' H => RC w') (by kernel_rfl) ?_
      refine Hs.runU0 (afterR Try.f53 4).length [] 300 (fun _ => by kernel_rfl) ?_
      exact Hs.goto (afterR Try.f53 4) [0, 1, 2, 3, 4, 5, 6, 7, 8, 9, 10, 11] [.b true 34 (MX.sc ⟨xA, xcap, l, lim, false⟩), .b true 28 m.sc, .b true 34 [.v (.slice none 0 0), .v (.int .u32 0), .v (.bool false)], .s (some ⟨g, 0, none⟩) cap l.length 45 12 (l.flatMap CH.cells), .b true 81 (TK.sc ⟨⟨some ⟨g, 0, none⟩, cap, l, lim, false⟩, .slice none 0 0, .slice none 0 0, 0⟩), .s none 0 0 28 10 [], .s none 0 0 77 6 [], .q true (some ⟨r, 0, none⟩) (fun w' => MapM (kI .i64) w' r kindsL) MapM.st, .b true 28 m.sc, .b true 28 m.sc, .b true 77 (EV.sc (⟨3, 0, 0, ⟨#[]⟩, false, none, 0, 0⟩ : EV)), .b true 45 (CH.sc d)] [(0, .c (.p 4 0)), (5, .c (.p 10 0)), (6, .c (.v (.int .i64 i0))), (7, .c (.p 11 0)), (8, .c (.v (.int .i64 E)))] (by kernel_rfl) (by decide) (by kernel_rfl) (by kernel_rfl) (fun _ => (by kernel_rfl)) (fun u => K (b11, u))
  obtain ⟨b11, u⟩ := i
  refine Hs.run0 300 (fun _ => by kernel_rfl) ?_
  refine Hs.cond (E != 0) (by kernel_rfl) (fun hE => ?_) (fun hE => ?_)
  · have hE : E ≠ 0 := by simpa using hE
    rw [if_pos hE]
    refine Hs.run0 300 (fun _ => by kernel_rfl) ?_
    refine Hs.inl Try.func42 [.c (.p 4 0), .c (.v (.int .i64 E))] (by kernel_rfl) (by kernel_rfl) ?_
    refine Hs.run0 300 (fun _ => by kernel_rfl) ?_
    refine Hs.inl Try.func14 [.g (MX.sc ⟨some ⟨g, 0, none⟩, cap, l, lim, false⟩)] (by kernel_rfl) (by kernel_rfl) ?_
    refine Hs.run2 300 (fun _ => by kernel_rfl) fun p0 p1 => ?_
    refine Hs.callS (cf := CH.cells) (E := 45) (size := 12) (fun A cap => MX.val ⟨A, cap, l, lim, false⟩) (l) (l).length rfl (fun w' H => twin_any ⟨some ⟨g, 0, none⟩, cap, l, lim, false⟩ w' ⟨H.rdX 3 (A := some ⟨g, 0, none⟩) (cap := cap) (E := 45) (size := 12) rfl (by kernel_rfl), h1, h2, hx.chs, hx.lim⟩ hf) (by kernel_rfl) (by kernel_rfl) fun A2 cap2 h3 h4 => ?_
    refine Hs.run0 300 (fun _ => by kernel_rfl) ?_
    refine Hs.condF (by kernel_rfl) ?_
    refine Hs.run1 300 (fun _ => by kernel_rfl) fun p3 => ?_
    refine Hs.mark 15 26 5 protoB 14 Try.underlying26 Try.underlying5 (by kernel_rfl) (by kernel_rfl) (by kernel_rfl) ?_
    refine Hs.run1 300 (fun _ => by kernel_rfl) fun p4 => ?_
    refine Hs.retI Try.func14 (by kernel_rfl) (by kernel_rfl) (by kernel_rfl) ?_
    refine Hs.run0 300 (fun _ => by kernel_rfl) ?_
    refine Hs.retI Try.func42 (by kernel_rfl) (by kernel_rfl) (by kernel_rfl) ?_
    refine Hs.run0 300 (fun _ => by kernel_rfl) ?_
    refine Hs.retI Try.func53 (by kernel_rfl) (by kernel_rfl) (by kernel_rfl) ?_
    refine Hs.run0 300 (fun _ => by kernel_rfl) ?_
    refine Hs.retI Try.func39 (by kernel_rfl) (by kernel_rfl) (by kernel_rfl) ?_
    refine Hs.run0 300 (fun _ => by kernel_rfl) ?_
    refine Hs.any [4] (by kernel_rfl) ?_
    refine Hs.run0 300 (fun _ => by kernel_rfl) ?_
    exact Hs.ret (v := .tuple #[MX.val ⟨A2, cap2, l, lim, true⟩, .slice (some ⟨p4, 0, none⟩) 1 1, .slice none 0 0, .int .i64 E]) Try.func9 (by kernel_rfl) fun w' H => ⟨A2, cap2, some ⟨p4, 0, none⟩, 1, none, 0, rfl, H.only, ⟨H.fresh 14 rfl (by kernel_rfl), ⟨[faultM p3], rfl, H.freshB 16 [faultM p3] rfl (by kernel_rfl : _ = some (HB.b true 28 ((faultM p3).row.map SC.v))) rfl mdr_len (show 1 ≤ maxLen by decide)⟩, ⟨[], rfl, H.fresh 6 rfl (by kernel_rfl)⟩⟩⟩
  have hE : E = 0 := by simpa using hE
  subst hE
  rw [if_neg (by simp)]
  refine Hs.run0 300 (fun _ => by kernel_rfl) ?_
  refine Hs.any [4, 11, 1008] (by kernel_rfl) ?_
  refine Hs.run0 300 (fun _ => by kernel_rfl) ?_
  refine Hs.idx elemCh (b := g) (off := 0) (c := cap) (len := l.length) (i := i0) hlt (by kernel_rfl) ?_
  refine Hs.run0 300 (fun _ => by kernel_rfl) ?_
  refine Hs.stx (E := 45) (g := g) (cap := cap) (E' := 45) 3 ch_len ch_one l l.length rfl i0 hlt d (v := d.val) rfl (by kernel_rfl) (by kernel_rfl) (by kernel_rfl) (by kernel_rfl) ?_
  refine Hs.run0 300 (fun _ => by kernel_rfl) ?_
  refine Hs.inl Try.func46 [.c (.p 4 0), .g (EV.sc (⟨3, d.loc, 0, ⟨#[]⟩, false, none, 0, 0⟩ : EV))] (by kernel_rfl) (by kernel_rfl) ?_
  refine Hs.run1 300 (fun _ => by kernel_rfl) fun q0 => ?_
  refine Hs.any [4, 12, 1010] (by kernel_rfl) ?_
  refine Hs.run1 300 (fun _ => by kernel_rfl) fun q1 => ?_
  refine Hs.app (c := 1) (ty := 36) 6 elemEv [] [(⟨3, d.loc, 0, ⟨#[]⟩, false, none, 0, 0⟩ : EV)] 0 1 rfl rfl ev_one ev_len (A := none) (B := some ⟨q1, 0, none⟩) (cap := 0) (by kernel_rfl) (by kernel_rfl) (by kernel_rfl) (fun w' H => H.rdB (gs := [(⟨3, d.loc, 0, ⟨#[]⟩, false, none, 0, 0⟩ : EV)]) 13 (wr := true) (T := 77) (cs := (⟨3, d.loc, 0, ⟨#[]⟩, false, none, 0, 0⟩ : EV).row.map SC.v) (by kernel_rfl) rfl) (by decide) by_ev fun eA eC ho => ?_
  refine Hs.run0 300 (fun _ => by kernel_rfl) ?_
  refine Hs.retI Try.func46 (by kernel_rfl) (by kernel_rfl) (by kernel_rfl) ?_
  refine Hs.run0 300 (fun _ => by kernel_rfl) ?_
  refine Hs.retI Try.func53 (by kernel_rfl) (by kernel_rfl) (by kernel_rfl) ?_
  refine Hs.run0 300 (fun _ => by kernel_rfl) ?_
  refine Hs.retI Try.func39 (by kernel_rfl) (by kernel_rfl) (by kernel_rfl) ?_
  refine Hs.run0 300 (fun _ => by kernel_rfl) ?_
  refine Hs.any [4] (by kernel_rfl) ?_
  refine Hs.run0 300 (fun _ => by kernel_rfl) ?_
  have hsl : (l.set i0 d).length = l.length := by simp
  exact Hs.ret (v := .tuple #[.agg #[.slice (some ⟨g, 0, none⟩) l.length cap, .int .u32 lim, .bool false], .slice none 0 0, .slice eA 1 eC, .int .i64 0]) Try.func9 (by kernel_rfl) fun w' H => ⟨some ⟨g, 0, none⟩, cap, none, 0, eA, eC, by simp only [MX.val, hsl]; rfl, H.only, ⟨by dsimp only; rw [hsl]; exact H.fresh 3 hsl (by kernel_rfl), ⟨[], rfl, H.fresh 5 rfl (by kernel_rfl)⟩, ⟨[(⟨3, d.loc, 0, ⟨#[]⟩, false, none, 0, 0⟩ : EV)], rfl, H.fresh 6 rfl (by kernel_rfl)⟩⟩⟩
set_option maxHeartbeats 2000000 in
theorem take_comes_closed (xA : Option Addr) (xcap : Nat) (l : List CH) (lim : Int) (m : MD) (w : World) (hx : MX.ok w ⟨xA, xcap, l, lim, false⟩) (hf : Few l) (hk : m.kind = 97) (hm : MIn w m) : Calls Try.prog 9 #[MX.val ⟨xA, xcap, l, lim, false⟩, m.val] w (MTakeP ⟨xA, xcap, l, lim, false⟩ (comesR l m 4) w) := by
  have hx' : MX.ok w ⟨xA, xcap, l, lim, false⟩ := hx
  refine Hs.enter Try.func9 [] [] [] [.g (MX.sc ⟨xA, xcap, l, lim, false⟩), .g m.sc] (Mem.start0 w) (by kernel_rfl) (by kernel_rfl) ?_
  refine Hs.run3 300 (fun _ => by kernel_rfl) fun b0 b1 b2 => ?_
  refine Hs.callS (cf := CH.cells) (E := 45) (size := 12) (fun A cap => MX.val ⟨A, cap, l, lim, false⟩) l l.length rfl (fun w' H => twin_any ⟨xA, xcap, l, lim, false⟩ w' (hx.only H.only) hf) (by kernel_rfl) (by kernel_rfl) fun A cap h1 h2 => ?_
  refine Hs.run1 300 (fun _ => by kernel_rfl) fun b4 => ?_
  refine Hs.condF (by kernel_rfl) ?_
  refine Hs.nilS 28 10 (by kernel_rfl) ?_ (by kernel_rfl)
  refine Hs.nilS 77 6 (by kernel_rfl) ?_ (by kernel_rfl)
  refine Hs.run0 300 (fun _ => by kernel_rfl) ?_
  refine Hs.any [1] (by kernel_rfl) ?_
  refine Hs.run0 300 (fun _ => by kernel_rfl) ?_
  refine Hs.callQ (X := Nat) (fun r => some ⟨r, 0, none⟩) (fun r => .map (some r)) (fun r w' => MapM (kI .i64) w' r kindsL) (fun r => MapM.st) (fun w' H => kinds_any w') (by kernel_rfl) (by kernel_rfl) fun r => ?_
  refine Hs.run0 300 (fun _ => by kernel_rfl) ?_
  refine Hs.getM (r := r) (es := kindsL) keyK m.kind true (.tuple #[.func (.func 40) #[] #[], .bool true]) (by rw [hk]; rfl) (by kernel_rfl) (fun w' H => H.mapM 7 (by kernel_rfl)) ?_
  refine Hs.run0 300 (fun _ => by kernel_rfl) ?_
  refine Hs.condF (by kernel_rfl) ?_
  refine Hs.run0 300 (fun _ => by kernel_rfl) ?_
  refine Hs.inl Try.func40 [.c (.p 4 0), .g m.sc] (by kernel_rfl) (by kernel_rfl) ?_
  refine Hs.run1 300 (fun _ => by kernel_rfl) fun b8 => ?_
  refine Hs.inl Try.func53 [.c (.p 4 0), .g m.sc, .c (.v (EV.val (⟨4, 0, 0, ⟨#[]⟩, false, none, 0, 0⟩ : EV)))] (by kernel_rfl) (by kernel_rfl) ?_
  refine Hs.run2 300 (fun _ => by kernel_rfl) fun b9 b10 => ?_
  refine Hs.any [4, 9] (by kernel_rfl) ?_
  refine Hs.run0 300 (fun _ => by kernel_rfl) ?_
  refine Hs.callV (fun w' H => find_any ⟨A, cap, l, lim, false⟩ m.chan w' ⟨H.rdX 3 (A := A) (cap := cap) (E := 45) (size := 12) rfl (by kernel_rfl), h1, h2, hx.chs, hx.lim⟩) (by kernel_rfl) ?_
  refine Hs.run0 300 (fun _ => by kernel_rfl) ?_
  refine Hs.condP (ixI (locP m.chan) l < 0) (by kernel_rfl) (fun hi => ?_) (fun hi => ?_)
  · have e : comesR l m 4 = wrongR l 8 := by
      unfold comesR
      split
      · rfl
      · rw [if_pos hi]
    rw [e]
    refine Hs.run0 300 (fun _ => by kernel_rfl) ?_
    refine Hs.inl Try.func42 [.c (.p 4 0), .c (.v (.int .i64 8))] (by kernel_rfl) (by kernel_rfl) ?_
    refine Hs.run0 300 (fun _ => by kernel_rfl) ?_
    refine Hs.inl Try.func14 [.g (MX.sc ⟨A, cap, l, lim, false⟩)] (by kernel_rfl) (by kernel_rfl) ?_
    refine Hs.run2 300 (fun _ => by kernel_rfl) fun p0 p1 => ?_
    refine Hs.callS (cf := CH.cells) (E := 45) (size := 12) (fun A cap => MX.val ⟨A, cap, l, lim, false⟩) (l) (l).length rfl (fun w' H => twin_any ⟨A, cap, l, lim, false⟩ w' ⟨H.rdX 3 (A := A) (cap := cap) (E := 45) (size := 12) rfl (by kernel_rfl), h1, h2, hx.chs, hx.lim⟩ hf) (by kernel_rfl) (by kernel_rfl) fun A2 cap2 h3 h4 => ?_
    refine Hs.run0 300 (fun _ => by kernel_rfl) ?_
    refine Hs.condF (by kernel_rfl) ?_
    refine Hs.run1 300 (fun _ => by kernel_rfl) fun p3 => ?_
    refine Hs.mark 14 26 5 protoB 14 Try.underlying26 Try.underlying5 (by kernel_rfl) (by kernel_rfl) (by kernel_rfl) ?_
    refine Hs.run1 300 (fun _ => by kernel_rfl) fun p4 => ?_
    refine Hs.retI Try.func14 (by kernel_rfl) (by kernel_rfl) (by kernel_rfl) ?_
    refine Hs.run0 300 (fun _ => by kernel_rfl) ?_
    refine Hs.retI Try.func42 (by kernel_rfl) (by kernel_rfl) (by kernel_rfl) ?_
    refine Hs.run0 300 (fun _ => by kernel_rfl) ?_
    refine Hs.retI Try.func53 (by kernel_rfl) (by kernel_rfl) (by kernel_rfl) ?_
    refine Hs.run0 300 (fun _ => by kernel_rfl) ?_
    refine Hs.retI Try.func40 (by kernel_rfl) (by kernel_rfl) (by kernel_rfl) ?_
    refine Hs.run0 300 (fun _ => by kernel_rfl) ?_
    refine Hs.any [4] (by kernel_rfl) ?_
    refine Hs.run0 300 (fun _ => by kernel_rfl) ?_
    exact Hs.ret (v := .tuple #[MX.val ⟨A2, cap2, l, lim, true⟩, .slice (some ⟨p4, 0, none⟩) 1 1, .slice none 0 0, .int .i64 8]) Try.func9 (by kernel_rfl) fun w' H => ⟨A2, cap2, some ⟨p4, 0, none⟩, 1, none, 0, rfl, H.only, ⟨H.fresh 13 rfl (by kernel_rfl), ⟨[faultM p3], rfl, H.freshB 15 [faultM p3] rfl (by kernel_rfl : _ = some (HB.b true 28 ((faultM p3).row.map SC.v))) rfl mdr_len (show 1 ≤ maxLen by decide)⟩, ⟨[], rfl, H.fresh 6 rfl (by kernel_rfl)⟩⟩⟩
  obtain ⟨c, hc1, _⟩ := ixI_get (p := locP m.chan) (l := l) (by omega)
  have hlt := (List.getElem?_eq_some_iff.1 hc1).1
  obtain ⟨i0, hi0⟩ : ∃ i : Nat, ixI (locP m.chan) l = i := ⟨(ixI (locP m.chan) l).toNat, by omega⟩
  have e : comesR l m 4 = if (recvC c m.kind m.window m.want m.data.length).2 ≠ 0 then wrongR l (recvC c m.kind m.window m.want m.data.length).2 else ⟨l.set i0 (recvC c m.kind m.window m.want m.data.length).1, false, [], [4], 0⟩ := by
    unfold comesR
    rw [hc1]
    dsimp only
    rw [if_neg hi]
    simp only [hi0, Int.toNat_natCast]
  rw [e]
  clear e
  rw [hi0, Int.toNat_natCast] at hc1 hlt
  have hcm : c ∈ l := List.mem_of_getElem? hc1
  have RC := fun w' => chRecv_any c m w' (hx.chs c hcm) hm.win (by have := hm.few; unfold maxLen; omega)
  obtain ⟨r0, hre⟩ : ∃ r0, r0 = recvC c m.kind m.window m.want m.data.length := ⟨_, rfl⟩
  rw [← hre] at RC ⊢
  clear hre
  obtain ⟨d, E⟩ := r0
  dsimp only at RC ⊢
  refine Hs.someS (A := A) (cap := cap) (nl := l.length) (E := 45) (size := 12) (vs := l.flatMap CH.cells) 3 (by kernel_rfl) (by omega) fun g hA => ?_
  subst hA
  refine Hs.run0 300 (fun _ => by kernel_rfl) ?_
  refine Hs.slot 6 (.c (.v (.int .i64 i0))) rfl ((by kernel_rfl : _ = Value.int .i64 (ixI (locP m.chan) l)).trans (congrArg (Value.int .i64) hi0)) ?_
  refine Hs.cut (ι := Nat × (Nat → Value)) (fun i => ([b0, b1, b2, 0, b4, 0, 0, 0, b8, b9, b10, i.1], ⟨.no, afterR Try.f53 4, pins [(0, .c (.p 4 0)), (5, .c (.p 10 0)), (6, .c (.v (.int .i64 i0))), (7, .c (.p 11 0)), (8, .c (.v (.int .i64 E)))] (.vals i.2), [.b true 34 (MX.sc ⟨xA, xcap, l, lim, false⟩), .b true 28 m.sc, .b true 34 [.v (.slice none 0 0), .v (.int .u32 0), .v (.bool false)], .s (some ⟨g, 0, none⟩) cap l.length 45 12 (l.flatMap CH.cells), .b true 81 (TK.sc ⟨⟨some ⟨g, 0, none⟩, cap, l, lim, false⟩, .slice none 0 0, .slice none 0 0, 0⟩), .s none 0 0 28 10 [], .s none 0 0 77 6 [], .q true (some ⟨r, 0, none⟩) (fun w' => MapM (kI .i64) w' r kindsL) MapM.st, .b true 28 m.sc, .b true 28 m.sc, .b true 77 (EV.sc (⟨4, 0, 0, ⟨#[]⟩, false, none, 0, 0⟩ : EV)), .b true 45 (CH.sc d)]⟩)) (fun K => ?_) (fun i => ?_)
  · refine Hs.any [3, 4, 9] (by kernel_rfl) ?_
    refine Hs.run0 300 (fun _ => by kernel_rfl) ?_
    refine Hs.takeIdx (rd := [3, 4, 9]) 6 elemCh (b := g) (off := 0) (c := cap) (len := l.length) (i := i0) hlt (by kernel_rfl) ?_
    refine Hs.takeLdS (rd := [3, 4, 9]) (E := 45) 7 3 ch_len (E' := 45) (g := g) (i := i0) (cap := cap) (nl := l.length) (l := l) (x := c) (.g c.sc) (by kernel_rfl) (by kernel_rfl) (by kernel_rfl) rfl hc1 (by kernel_rfl) (by kernel_rfl) (by kernel_rfl) (by kernel_rfl) ?_
    refine Hs.run0 300 (fun _ => by kernel_rfl) ?_
    refine Hs.branch2 9 13 (by kernel_rfl) ?_ ?_
    · refine Hs.callV (fun w' H => RC w') (by kernel_rfl) ?_
      refine Hs.runU1 (afterR Try.f53 4).length [] 300 (fun _ => by kernel_rfl) fun b11 => ?_
      exact Hs.goto (afterR Try.f53 4) [0, 1, 2, 3, 4, 5, 6, 7, 8, 9, 10, 11] [.b true 34 (MX.sc ⟨xA, xcap, l, lim, false⟩), .b true 28 m.sc, .b true 34 [.v (.slice none 0 0), .v (.int .u32 0), .v (.bool false)], .s (some ⟨g, 0, none⟩) cap l.length 45 12 (l.flatMap CH.cells), .b true 81 (TK.sc ⟨⟨some ⟨g, 0, none⟩, cap, l, lim, false⟩, .slice none 0 0, .slice none 0 0, 0⟩), .s none 0 0 28 10 [], .s none 0 0 77 6 [], .q true (some ⟨r, 0, none⟩) (fun w' => MapM (kI .i64) w' r kindsL) MapM.st, .b true 28 m.sc, .b true 28 m.sc, .b true 77 (EV.sc (⟨4, 0, 0, ⟨#[]⟩, false, none, 0, 0⟩ : EV)), .b true 45 (CH.sc d)] [(0, .c (.p 4 0)), (5, .c (.p 10 0)), (6, .c (.v (.int .i64 i0))), (7, .c (.p 11 0)), (8, .c (.v (.int .i64 E)))] (by kernel_rfl) (by decide) (by kernel_rfl) (by kernel_rfl) (fun _ => (by kernel_rfl)) (fun u => K (b11, u))
    · refine Hs.run1 300 (fun _ => by kernel_rfl) fun b11 => ?_
      refine Hs.callV (fun w' H => RC w') (by kernel_rfl) ?_
      refine Hs.runU0 (afterR Try.f53 4).length [] 300 (fun _ => by kernel_rfl) ?_
      exact Hs.goto (afterR Try.f53 4) [0, 1, 2, 3, 4, 5, 6, 7, 8, 9, 10, 11] [.b true 34 (MX.sc ⟨xA, xcap, l, lim, false⟩), .b true 28 m.sc, .b true 34 [.v (.slice none 0 0), .v (.int .u32 0), .v (.bool false)], .s (some ⟨g, 0, none⟩) cap l.length 45 12 (l.flatMap CH.cells), .b true 81 (TK.sc ⟨⟨some ⟨g, 0, none⟩, cap, l, lim, false⟩, .slice none 0 0, .slice none 0 0, 0⟩), .s none 0 0 28 10 [], .s none 0 0 77 6 [], .q true (some ⟨r, 0, none⟩) (fun w' => MapM (kI .i64) w' r kindsL) MapM.st, .b true 28 m.sc, .b true 28 m.sc, .b true 77 (EV.sc (⟨4, 0, 0, ⟨#[]⟩, false, none, 0, 0⟩ : EV)), .b true 45 (CH.sc d)] [(0, .c (.p 4 0)), (5, .c (.p 10 0)), (6, .c (.v (.int .i64 i0))), (7, .c (.p 11 0)), (8, .c (.v (.int .i64 E)))] (by kernel_rfl) (by decide) (by kernel_rfl) (by kernel_rfl) (fun _ => (by kernel_rfl)) (fun u => K (b11, u))
  obtain ⟨b11, u⟩ := i
  refine Hs.run0 300 (fun _ => by kernel_rfl) ?_
  refine Hs.cond (E != 0) (by kernel_rfl) (fun hE => ?_) (fun hE => ?_)
  · have hE : E ≠ 0 := by simpa using hE
    rw [if_pos hE]
    refine Hs.run0 300 (fun _ => by kernel_rfl) ?_
    refine Hs.inl Try.func42 [.c (.p 4 0), .c (.v (.int .i64 E))] (by kernel_rfl) (by kernel_rfl) ?_
    refine Hs.run0 300 (fun _ => by kernel_rfl) ?_
    refine Hs.inl Try.func14 [.g (MX.sc ⟨some ⟨g, 0, none⟩, cap, l, lim, false⟩)] (by kernel_rfl) (by kernel_rfl) ?_
    refine Hs.run2 300 (fun _ => by kernel_rfl) fun p0 p1 => ?_
    refine Hs.callS (cf := CH.cells) (E := 45) (size := 12) (fun A cap => MX.val ⟨A, cap, l, lim, false⟩) (l) (l).length rfl (fun w' H => twin_any ⟨some ⟨g, 0, none⟩, cap, l, lim, false⟩ w' ⟨H.rdX 3 (A := some ⟨g, 0, none⟩) (cap := cap) (E := 45) (size := 12) rfl (by kernel_rfl), h1, h2, hx.chs, hx.lim⟩ hf) (by kernel_rfl) (by kernel_rfl) fun A2 cap2 h3 h4 => ?_
    refine Hs.run0 300 (fun _ => by kernel_rfl) ?_
    refine Hs.condF (by kernel_rfl) ?_
    refine Hs.run1 300 (fun _ => by kernel_rfl) fun p3 => ?_
    refine Hs.mark 15 26 5 protoB 14 Try.underlying26 Try.underlying5 (by kernel_rfl) (by kernel_rfl) (by kernel_rfl) ?_
    refine Hs.run1 300 (fun _ => by kernel_rfl) fun p4 => ?_
    refine Hs.retI Try.func14 (by kernel_rfl) (by kernel_rfl) (by kernel_rfl) ?_
    refine Hs.run0 300 (fun _ => by kernel_rfl) ?_
    refine Hs.retI Try.func42 (by kernel_rfl) (by kernel_rfl) (by kernel_rfl) ?_
    refine Hs.run0 300 (fun _ => by kernel_rfl) ?_
    refine Hs.retI Try.func53 (by kernel_rfl) (by kernel_rfl) (by kernel_rfl) ?_
    refine Hs.run0 300 (fun _ => by kernel_rfl) ?_
    refine Hs.retI Try.func40 (by kernel_rfl) (by kernel_rfl) (by kernel_rfl) ?_
    refine Hs.run0 300 (fun _ => by kernel_rfl) ?_
    refine Hs.any [4] (by kernel_rfl) ?_
    refine Hs.run0 300 (fun _ => by kernel_rfl) ?_
    exact Hs.ret (v := .tuple #[MX.val ⟨A2, cap2, l, lim, true⟩, .slice (some ⟨p4, 0, none⟩) 1 1, .slice none 0 0, .int .i64 E]) Try.func9 (by kernel_rfl) fun w' H => ⟨A2, cap2, some ⟨p4, 0, none⟩, 1, none, 0, rfl, H.only, ⟨H.fresh 14 rfl (by kernel_rfl), ⟨[faultM p3], rfl, H.freshB 16 [faultM p3] rfl (by kernel_rfl : _ = some (HB.b true 28 ((faultM p3).row.map SC.v))) rfl mdr_len (show 1 ≤ maxLen by decide)⟩, ⟨[], rfl, H.fresh 6 rfl (by kernel_rfl)⟩⟩⟩
  have hE : E = 0 := by simpa using hE
  subst hE
  rw [if_neg (by simp)]
  refine Hs.run0 300 (fun _ => by kernel_rfl) ?_
  refine Hs.any [4, 11, 1008] (by kernel_rfl) ?_
  refine Hs.run0 300 (fun _ => by kernel_rfl) ?_
  refine Hs.idx elemCh (b := g) (off := 0) (c := cap) (len := l.length) (i := i0) hlt (by kernel_rfl) ?_
  refine Hs.run0 300 (fun _ => by kernel_rfl) ?_
  refine Hs.stx (E := 45) (g := g) (cap := cap) (E' := 45) 3 ch_len ch_one l l.length rfl i0 hlt d (v := d.val) rfl (by kernel_rfl) (by kernel_rfl) (by kernel_rfl) (by kernel_rfl) ?_
  refine Hs.run0 300 (fun _ => by kernel_rfl) ?_
  refine Hs.inl Try.func46 [.c (.p 4 0), .g (EV.sc (⟨4, d.loc, 0, ⟨#[]⟩, false, none, 0, 0⟩ : EV))] (by kernel_rfl) (by kernel_rfl) ?_
  refine Hs.run1 300 (fun _ => by kernel_rfl) fun q0 => ?_
  refine Hs.any [4, 12, 1010] (by kernel_rfl) ?_
  refine Hs.run1 300 (fun _ => by kernel_rfl) fun q1 => ?_
  refine Hs.app (c := 1) (ty := 36) 6 elemEv [] [(⟨4, d.loc, 0, ⟨#[]⟩, false, none, 0, 0⟩ : EV)] 0 1 rfl rfl ev_one ev_len (A := none) (B := some ⟨q1, 0, none⟩) (cap := 0) (by kernel_rfl) (by kernel_rfl) (by kernel_rfl) (fun w' H => H.rdB (gs := [(⟨4, d.loc, 0, ⟨#[]⟩, false, none, 0, 0⟩ : EV)]) 13 (wr := true) (T := 77) (cs := (⟨4, d.loc, 0, ⟨#[]⟩, false, none, 0, 0⟩ : EV).row.map SC.v) (by kernel_rfl) rfl) (by decide) by_ev fun eA eC ho => ?_
  refine Hs.run0 300 (fun _ => by kernel_rfl) ?_
  refine Hs.retI Try.func46 (by kernel_rfl) (by kernel_rfl) (by kernel_rfl) ?_
  refine Hs.run0 300 (fun _ => by kernel_rfl) ?_
  refine Hs.retI Try.func53 (by kernel_rfl) (by kernel_rfl) (by kernel_rfl) ?_
  refine Hs.run0 300 (fun _ => by kernel_rfl) ?_
  refine Hs.retI Try.func40 (by kernel_rfl) (by kernel_rfl) (by kernel_rfl) ?_
  refine Hs.run0 300 (fun _ => by kernel_rfl) ?_
  refine Hs.any [4] (by kernel_rfl) ?_
  refine Hs.run0 300 (fun _ => by kernel_rfl) ?_
  have hsl : (l.set i0 d).length = l.length := by simp
  exact Hs.ret (v := .tuple #[.agg #[.slice (some ⟨g, 0, none⟩) l.length cap, .int .u32 lim, .bool false], .slice none 0 0, .slice eA 1 eC, .int .i64 0]) Try.func9 (by kernel_rfl) fun w' H => ⟨some ⟨g, 0, none⟩, cap, none, 0, eA, eC, by simp only [MX.val, hsl]; rfl, H.only, ⟨by dsimp only; rw [hsl]; exact H.fresh 3 hsl (by kernel_rfl), ⟨[], rfl, H.fresh 5 rfl (by kernel_rfl)⟩, ⟨[(⟨4, d.loc, 0, ⟨#[]⟩, false, none, 0, 0⟩ : EV)], rfl, H.fresh 6 rfl (by kernel_rfl)⟩⟩⟩
end Go.Proofs.Ytbamojbkehnmkaa
