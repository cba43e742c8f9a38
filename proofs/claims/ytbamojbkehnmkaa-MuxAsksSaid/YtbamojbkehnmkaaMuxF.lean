/- Layer 26: Take: what ends it all, what asks for nothing, what is not known; for all channels and messages; no condition. -/
import Derived.Test.YtbamojbkehnmkaaMuxE
namespace Go.Proofs.Ytbamojbkehnmkaa
set_option linter.all false
set_option maxRecDepth 100000
open Go.RowKit

def protoB : List Int := [112, 114, 111, 116, 111, 99, 111, 108, 32, 101, 114, 114, 111, 114]
def faultM (b : Nat) : MD := ⟨1, 0, 0, 0, 0, 2, ⟨#[]⟩, ⟨#[]⟩, false, some ⟨b, 0, none⟩, 14, protoB⟩
theorem take_leave (xA : Option Addr) (xcap : Nat) (l : List CH) (lim : Int) (m : MD) (w : World) (hx : MX.ok w ⟨xA, xcap, l, lim, false⟩) (hf : Few l) (hk : m.kind = 1) : Calls Try.prog 9 #[MX.val ⟨xA, xcap, l, lim, false⟩, m.val] w (MTakeP ⟨xA, xcap, l, lim, false⟩ (⟨l, true, [], [7], 0⟩) w) := by
  have hx' : MX.ok w ⟨xA, xcap, l, lim, false⟩ := hx
  refine Hs.enter Try.func9 [] [] [] [.g (MX.sc ⟨xA, xcap, l, lim, false⟩), .g m.sc] (Mem.start0 w) (by kernel_rfl) (by kernel_rfl) ?_
  refine Hs.run3 300 (fun _ => by kernel_rfl) fun b0 b1 b2 => ?_
  refine Hs.callS (cf := CH.cells) (E := 45) (size := 12) (fun A cap => MX.val ⟨A, cap, l, lim, false⟩) l l.length rfl (fun w' H => twin_any ⟨xA, xcap, l, lim, false⟩ w' (hx.only H.only) hf) (by kernel_rfl) (by kernel_rfl) fun A cap h1 h2 => ?_
  refine Hs.run1 300 (fun _ => by kernel_rfl) fun b4 => ?_
  refine Hs.condF (by kernel_rfl) ?_
  refine Hs.nilS 28 10 (by kernel_rfl) ?_ (by kernel_rfl)
  refine Hs.nilS 77 6 (by kernel_rfl) ?_ (by kernel_rfl)
  refine Hs.run0 300 (fun _ => by kernel_rfl) ?_
  refine Hs.any [1] (by kernel_rfl) ?_
  refine Hs.run0 300 (fun _ => by kernel_rfl) ?_
  refine Hs.callQ (X := Nat) (fun r => some ⟨r, 0, none⟩) (fun r => .map (some r)) (fun r w' => MapM (kI .i64) w' r kindsL) (fun r => MapM.st) (fun w' H => kinds_any w') (by kernel_rfl) (by kernel_rfl) fun r => ?_
  refine Hs.run0 300 (fun _ => by kernel_rfl) ?_
  refine Hs.getM (r := r) (es := kindsL) keyK m.kind true (.tuple #[.func (.func 34) #[] #[], .bool true]) (by rw [hk]; rfl) (by kernel_rfl) (fun w' H => H.mapM 7 (by kernel_rfl)) ?_
  refine Hs.run0 300 (fun _ => by kernel_rfl) ?_
  refine Hs.condF (by kernel_rfl) ?_
  refine Hs.run0 300 (fun _ => by kernel_rfl) ?_
  refine Hs.inl Try.func34 [.c (.p 4 0), .g m.sc] (by kernel_rfl) (by kernel_rfl) ?_
  refine Hs.run1 300 (fun _ => by kernel_rfl) fun b8 => ?_
  refine Hs.inl Try.func46 [.c (.p 4 0), .c (.v (EV.val (⟨7, 0, 0, ⟨#[]⟩, false, none, 0, 0⟩ : EV)))] (by kernel_rfl) (by kernel_rfl) ?_
  refine Hs.run1 300 (fun _ => by kernel_rfl) fun q0 => ?_
  refine Hs.any [4, 9, 1010] (by kernel_rfl) ?_
  refine Hs.run1 300 (fun _ => by kernel_rfl) fun q1 => ?_
  refine Hs.app (c := 1) (ty := 36) 6 elemEv [] [(⟨7, 0, 0, ⟨#[]⟩, false, none, 0, 0⟩ : EV)] 0 1 rfl rfl ev_one ev_len (A := none) (B := some ⟨q1, 0, none⟩) (cap := 0) (by kernel_rfl) (by kernel_rfl) (by kernel_rfl) (fun w' H => H.rdB (gs := [(⟨7, 0, 0, ⟨#[]⟩, false, none, 0, 0⟩ : EV)]) 10 (wr := true) (T := 77) (cs := (⟨7, 0, 0, ⟨#[]⟩, false, none, 0, 0⟩ : EV).row.map SC.v) (by kernel_rfl) rfl) (by decide) by_ev fun eA eC ho => ?_
  refine Hs.run0 300 (fun _ => by kernel_rfl) ?_
  refine Hs.retI Try.func46 (by kernel_rfl) (by kernel_rfl) (by kernel_rfl) ?_
  refine Hs.run0 300 (fun _ => by kernel_rfl) ?_
  refine Hs.retI Try.func34 (by kernel_rfl) (by kernel_rfl) (by kernel_rfl) ?_
  refine Hs.run0 300 (fun _ => by kernel_rfl) ?_
  refine Hs.any [4] (by kernel_rfl) ?_
  refine Hs.run0 300 (fun _ => by kernel_rfl) ?_
  exact Hs.ret (v := .tuple #[MX.val ⟨A, cap, l, lim, true⟩, .slice none 0 0, .slice eA 1 eC, .int .i64 0]) Try.func9 (by kernel_rfl) fun w' H => ⟨A, cap, none, 0, eA, eC, rfl, H.only, ⟨H.fresh 3 rfl (by kernel_rfl), ⟨[], rfl, H.fresh 5 rfl (by kernel_rfl)⟩, ⟨[(⟨7, 0, 0, ⟨#[]⟩, false, none, 0, 0⟩ : EV)], rfl, H.fresh 6 rfl (by kernel_rfl)⟩⟩⟩
theorem take_global (xA : Option Addr) (xcap : Nat) (l : List CH) (lim : Int) (m : MD) (w : World) (hx : MX.ok w ⟨xA, xcap, l, lim, false⟩) (hf : Few l) (hk : m.kind = 80) : Calls Try.prog 9 #[MX.val ⟨xA, xcap, l, lim, false⟩, m.val] w (MTakeP ⟨xA, xcap, l, lim, false⟩ (⟨l, false, if m.want then [(82, 0)] else [], [], 0⟩) w) := by
  have hx' : MX.ok w ⟨xA, xcap, l, lim, false⟩ := hx
  refine Hs.enter Try.func9 [] [] [] [.g (MX.sc ⟨xA, xcap, l, lim, false⟩), .g m.sc] (Mem.start0 w) (by kernel_rfl) (by kernel_rfl) ?_
  refine Hs.run3 300 (fun _ => by kernel_rfl) fun b0 b1 b2 => ?_
  refine Hs.callS (cf := CH.cells) (E := 45) (size := 12) (fun A cap => MX.val ⟨A, cap, l, lim, false⟩) l l.length rfl (fun w' H => twin_any ⟨xA, xcap, l, lim, false⟩ w' (hx.only H.only) hf) (by kernel_rfl) (by kernel_rfl) fun A cap h1 h2 => ?_
  refine Hs.run1 300 (fun _ => by kernel_rfl) fun b4 => ?_
  refine Hs.condF (by kernel_rfl) ?_
  refine Hs.nilS 28 10 (by kernel_rfl) ?_ (by kernel_rfl)
  refine Hs.nilS 77 6 (by kernel_rfl) ?_ (by kernel_rfl)
  refine Hs.run0 300 (fun _ => by kernel_rfl) ?_
  refine Hs.any [1] (by kernel_rfl) ?_
  refine Hs.run0 300 (fun _ => by kernel_rfl) ?_
  refine Hs.callQ (X := Nat) (fun r => some ⟨r, 0, none⟩) (fun r => .map (some r)) (fun r w' => MapM (kI .i64) w' r kindsL) (fun r => MapM.st) (fun w' H => kinds_any w') (by kernel_rfl) (by kernel_rfl) fun r => ?_
  refine Hs.run0 300 (fun _ => by kernel_rfl) ?_
  refine Hs.getM (r := r) (es := kindsL) keyK m.kind true (.tuple #[.func (.func 35) #[] #[], .bool true]) (by rw [hk]; rfl) (by kernel_rfl) (fun w' H => H.mapM 7 (by kernel_rfl)) ?_
  refine Hs.run0 300 (fun _ => by kernel_rfl) ?_
  refine Hs.condF (by kernel_rfl) ?_
  refine Hs.run0 300 (fun _ => by kernel_rfl) ?_
  refine Hs.inl Try.func35 [.c (.p 4 0), .g m.sc] (by kernel_rfl) (by kernel_rfl) ?_
  refine Hs.run1 300 (fun _ => by kernel_rfl) fun b8 => ?_
  refine Hs.cond m.want (by kernel_rfl) (fun hw => ?_) (fun hw => ?_)
  · rw [hw]
    refine Hs.run0 300 (fun _ => by kernel_rfl) ?_
    refine Hs.inl Try.func47 [.c (.p 4 0), .c (.v (MD.val (⟨82, 0, 0, 0, 0, 0, ⟨#[]⟩, ⟨#[]⟩, false, none, 0, []⟩ : MD)))] (by kernel_rfl) (by kernel_rfl) ?_
    refine Hs.run1 300 (fun _ => by kernel_rfl) fun q0 => ?_
    refine Hs.any [4, 9, 1010] (by kernel_rfl) ?_
    refine Hs.run1 300 (fun _ => by kernel_rfl) fun q1 => ?_
    refine Hs.app (c := 1) (ty := 31) 5 elemMs [] [(⟨82, 0, 0, 0, 0, 0, ⟨#[]⟩, ⟨#[]⟩, false, none, 0, []⟩ : MD)] 0 1 rfl rfl mdr_one mdr_len (A := none) (B := some ⟨q1, 0, none⟩) (cap := 0) (by kernel_rfl) (by kernel_rfl) (by kernel_rfl) (fun w' H => H.rdB (gs := [(⟨82, 0, 0, 0, 0, 0, ⟨#[]⟩, ⟨#[]⟩, false, none, 0, []⟩ : MD)]) 10 (wr := true) (T := 28) (cs := (⟨82, 0, 0, 0, 0, 0, ⟨#[]⟩, ⟨#[]⟩, false, none, 0, []⟩ : MD).row.map SC.v) (by kernel_rfl) rfl) (by decide) by_ms fun oA oC ho => ?_
    refine Hs.run0 300 (fun _ => by kernel_rfl) ?_
    refine Hs.retI Try.func47 (by kernel_rfl) (by kernel_rfl) (by kernel_rfl) ?_
    refine Hs.run0 300 (fun _ => by kernel_rfl) ?_
    refine Hs.retI Try.func35 (by kernel_rfl) (by kernel_rfl) (by kernel_rfl) ?_
    refine Hs.run0 300 (fun _ => by kernel_rfl) ?_
    refine Hs.any [4] (by kernel_rfl) ?_
    refine Hs.run0 300 (fun _ => by kernel_rfl) ?_
    exact Hs.ret (v := .tuple #[MX.val ⟨A, cap, l, lim, false⟩, .slice oA 1 oC, .slice none 0 0, .int .i64 0]) Try.func9 (by kernel_rfl) fun w' H => ⟨A, cap, oA, oC, none, 0, rfl, H.only, ⟨H.fresh 3 rfl (by kernel_rfl), ⟨[(⟨82, 0, 0, 0, 0, 0, ⟨#[]⟩, ⟨#[]⟩, false, none, 0, []⟩ : MD)], rfl, H.fresh 5 rfl (by kernel_rfl)⟩, ⟨[], rfl, H.fresh 6 rfl (by kernel_rfl)⟩⟩⟩
  · rw [hw]
    refine Hs.run0 300 (fun _ => by kernel_rfl) ?_
    refine Hs.retI Try.func35 (by kernel_rfl) (by kernel_rfl) (by kernel_rfl) ?_
    refine Hs.run0 300 (fun _ => by kernel_rfl) ?_
    refine Hs.any [4] (by kernel_rfl) ?_
    refine Hs.run0 300 (fun _ => by kernel_rfl) ?_
    exact Hs.ret (v := .tuple #[MX.val ⟨A, cap, l, lim, false⟩, .slice none 0 0, .slice none 0 0, .int .i64 0]) Try.func9 (by kernel_rfl) fun w' H => ⟨A, cap, none, 0, none, 0, rfl, H.only, ⟨H.fresh 3 rfl (by kernel_rfl), ⟨[], rfl, H.fresh 5 rfl (by kernel_rfl)⟩, ⟨[], rfl, H.fresh 6 rfl (by kernel_rfl)⟩⟩⟩
theorem take_strange (xA : Option Addr) (xcap : Nat) (l : List CH) (lim : Int) (m : MD) (w : World) (hx : MX.ok w ⟨xA, xcap, l, lim, false⟩) (hf : Few l) (hk : lookM m.kind kindsL = none) : Calls Try.prog 9 #[MX.val ⟨xA, xcap, l, lim, false⟩, m.val] w (MTakeP ⟨xA, xcap, l, lim, false⟩ (wrongR l 2) w) := by
  have hx' : MX.ok w ⟨xA, xcap, l, lim, false⟩ := hx
  refine Hs.enter Try.func9 [] [] [] [.g (MX.sc ⟨xA, xcap, l, lim, false⟩), .g m.sc] (Mem.start0 w) (by kernel_rfl) (by kernel_rfl) ?_
  refine Hs.run3 300 (fun _ => by kernel_rfl) fun b0 b1 b2 => ?_
  refine Hs.callS (cf := CH.cells) (E := 45) (size := 12) (fun A cap => MX.val ⟨A, cap, l, lim, false⟩) l l.length rfl (fun w' H => twin_any ⟨xA, xcap, l, lim, false⟩ w' (hx.only H.only) hf) (by kernel_rfl) (by kernel_rfl) fun A cap h1 h2 => ?_
  refine Hs.run1 300 (fun _ => by kernel_rfl) fun b4 => ?_
  refine Hs.condF (by kernel_rfl) ?_
  refine Hs.nilS 28 10 (by kernel_rfl) ?_ (by kernel_rfl)
  refine Hs.nilS 77 6 (by kernel_rfl) ?_ (by kernel_rfl)
  refine Hs.run0 300 (fun _ => by kernel_rfl) ?_
  refine Hs.any [1] (by kernel_rfl) ?_
  refine Hs.run0 300 (fun _ => by kernel_rfl) ?_
  refine Hs.callQ (X := Nat) (fun r => some ⟨r, 0, none⟩) (fun r => .map (some r)) (fun r w' => MapM (kI .i64) w' r kindsL) (fun r => MapM.st) (fun w' H => kinds_any w') (by kernel_rfl) (by kernel_rfl) fun r => ?_
  refine Hs.run0 300 (fun _ => by kernel_rfl) ?_
  refine Hs.getM (r := r) (es := kindsL) keyK m.kind true (.tuple #[.nilFunc, .bool false]) (by rw [hk]; rfl) (by kernel_rfl) (fun w' H => H.mapM 7 (by kernel_rfl)) ?_
  refine Hs.run0 300 (fun _ => by kernel_rfl) ?_
  refine Hs.condT (by kernel_rfl) ?_
  refine Hs.run0 300 (fun _ => by kernel_rfl) ?_
  refine Hs.inl Try.func26 [.c (.p 4 0), .g m.sc] (by kernel_rfl) (by kernel_rfl) ?_
  refine Hs.run1 300 (fun _ => by kernel_rfl) fun b8 => ?_
  refine Hs.inl Try.func42 [.c (.p 4 0), .c (.v (.int .i64 2))] (by kernel_rfl) (by kernel_rfl) ?_
  refine Hs.run0 300 (fun _ => by kernel_rfl) ?_
  refine Hs.inl Try.func14 [.g (MX.sc ⟨A, cap, l, lim, false⟩)] (by kernel_rfl) (by kernel_rfl) ?_
  refine Hs.run2 300 (fun _ => by kernel_rfl) fun p0 p1 => ?_
  refine Hs.callS (cf := CH.cells) (E := 45) (size := 12) (fun A cap => MX.val ⟨A, cap, l, lim, false⟩) (l) (l).length rfl (fun w' H => twin_any ⟨A, cap, l, lim, false⟩ w' ⟨H.rdX 3 (A := A) (cap := cap) (E := 45) (size := 12) rfl (by kernel_rfl), h1, h2, hx.chs, hx.lim⟩ hf) (by kernel_rfl) (by kernel_rfl) fun A2 cap2 h3 h4 => ?_
  refine Hs.run0 300 (fun _ => by kernel_rfl) ?_
  refine Hs.condF (by kernel_rfl) ?_
  refine Hs.run1 300 (fun _ => by kernel_rfl) fun p3 => ?_
  refine Hs.mark 12 26 5 protoB 14 Try.underlying26 Try.underlying5 (by kernel_rfl) (by kernel_rfl) (by kernel_rfl) ?_
  refine Hs.run1 300 (fun _ => by kernel_rfl) fun p4 => ?_
  refine Hs.retI Try.func14 (by kernel_rfl) (by kernel_rfl) (by kernel_rfl) ?_
  refine Hs.run0 300 (fun _ => by kernel_rfl) ?_
  refine Hs.retI Try.func42 (by kernel_rfl) (by kernel_rfl) (by kernel_rfl) ?_
  refine Hs.run0 300 (fun _ => by kernel_rfl) ?_
  refine Hs.retI Try.func26 (by kernel_rfl) (by kernel_rfl) (by kernel_rfl) ?_
  refine Hs.run0 300 (fun _ => by kernel_rfl) ?_
  refine Hs.any [4] (by kernel_rfl) ?_
  refine Hs.run0 300 (fun _ => by kernel_rfl) ?_
  exact Hs.ret (v := .tuple #[MX.val ⟨A2, cap2, l, lim, true⟩, .slice (some ⟨p4, 0, none⟩) 1 1, .slice none 0 0, .int .i64 2]) Try.func9 (by kernel_rfl) fun w' H => ⟨A2, cap2, some ⟨p4, 0, none⟩, 1, none, 0, rfl, H.only, ⟨H.fresh 11 rfl (by kernel_rfl), ⟨[faultM p3], rfl, H.freshB 13 [faultM p3] rfl (by kernel_rfl : _ = some (HB.b true 28 ((faultM p3).row.map SC.v))) rfl mdr_len (show 1 ≤ maxLen by decide)⟩, ⟨[], rfl, H.fresh 6 rfl (by kernel_rfl)⟩⟩⟩
end Go.Proofs.Ytbamojbkehnmkaa
