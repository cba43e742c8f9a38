/- Layer 26: Take: a channel more; for all channels and messages; no condition. -/
import Derived.Test.YtbamojbkehnmkaaMuxF
namespace Go.Proofs.Ytbamojbkehnmkaa
set_option linter.all false
set_option maxRecDepth 100000
open Go.RowKit

theorem bytes_list (a b : ByteArray) : (a.toList == b.toList) = true ↔ a = b := by
  rw [beq_iff_eq, ByteArray.toList_eq, ByteArray.toList_eq]
  constructor
  · intro h
    cases a; cases b
    simp only [ByteArray.mk.injEq] at h ⊢
    exact Array.toList_inj.1 h
  · intro h; rw [h]
theorem open1_any (c : CH) (m : MD) (g : Nat) (w : World) (hg : Blk w g 28 m.row) : Calls Try.prog 49 #[c.val, .pointer (some ⟨g, 0, none⟩)] w fun e w' => e = .returned (.bool (remP m.sender c)) ∧ Only [] w w' := by
  refine Hs.enter Try.func49 [] [g] [.b false 28 m.sc] [.g c.sc, .c (.p 0 0)] (Mem.rd1 w g hg) (by kernel_rfl) (by kernel_rfl) ?_
  refine Hs.run1 300 (fun _ => by kernel_rfl) fun b0 => ?_
  exact Hs.ret (v := .bool (remP m.sender c)) Try.func49 (by kernel_rfl) fun w' H => ⟨rfl, H.only⟩
theorem open2_any (c d : CH) (g : Nat) (w : World) (hg : Blk w g 45 d.cells) : Calls Try.prog 51 #[c.val, .pointer (some ⟨g, 0, none⟩)] w fun e w' => e = .returned (.bool (geP d.loc c)) ∧ Only [] w w' := by
  refine Hs.enter Try.func51 [] [g] [.b false 45 d.sc] [.g c.sc, .c (.p 0 0)] (Mem.rd1 w g hg) (by kernel_rfl) (by kernel_rfl) ?_
  refine Hs.run1 300 (fun _ => by kernel_rfl) fun b0 => ?_
  exact Hs.ret (v := .bool (geP d.loc c)) Try.func51 (by kernel_rfl) fun w' H => ⟨rfl, H.only⟩
set_option maxHeartbeats 2000000 in
theorem take_open (xA : Option Addr) (xcap : Nat) (l : List CH) (lim : Int) (m : MD) (w : World) (hx : MX.ok w ⟨xA, xcap, l, lim, false⟩) (hf : Few l) (hk : m.kind = 90) : Calls Try.prog 9 #[MX.val ⟨xA, xcap, l, lim, false⟩, m.val] w (MTakeP ⟨xA, xcap, l, lim, false⟩ (openR l lim m) w) := by
  have hx' : MX.ok w ⟨xA, xcap, l, lim, false⟩ := hx
  refine Hs.enter Try.func9 [] [] [] [.g (MX.sc ⟨xA, xcap, l, lim, false⟩), .g m.sc] (Mem.start0 w) (by kernel_rfl) (by kernel_rfl) ?_
  refine Hs.run3 300 (fun _ => by kernel_rfl) fun b0 b1 b2 => ?_
  refine Hs.callS (cf := CH.cells) (E := 45) (size := 12) (fun A cap => MX.val ⟨A, cap, l, lim, false⟩) l l.length rfl (fun w' H => twin_any ⟨xA, xcap, l, lim, false⟩ w' (hx.only H.only) hf) (by kernel_rfl) (by kernel_rfl) fun A cap h1 h2 => ?_
  refine Hs.run1 300 (fun _ => by kernel_rfl) fun b4 => ?_
  refine Hs.condF (by kernel_rfl) ?_
  refine Hs.nilS 28 10 (by kernel_rfl) ?_ (by kernel_rfl)
  refine Hs.nilS 77 6 (by kernel_rfl) ?_ (by kernel_rfl)
  refine Hs.run0 300 (fun _ => by kernel_rfl) ?_
  refine Hs.any [1] (by kernel_rfl) ?_
  refine Hs.run0 300 (fun _ => by kernel_rfl) ?_
  refine Hs.callQ (X := Nat) (fun r => some ⟨r, 0, none⟩) (fun r => .map (some r)) (fun r w' => MapM (kI .i64) w' r kindsL) (fun r => MapM.st) (fun w' H => kinds_any w') (by kernel_rfl) (by kernel_rfl) fun r => ?_
  refine Hs.run0 300 (fun _ => by kernel_rfl) ?_
  refine Hs.getM (r := r) (es := kindsL) keyK m.kind true (.tuple #[.func (.func 36) #[] #[], .bool true]) (by rw [hk]; rfl) (by kernel_rfl) (fun w' H => H.mapM 7 (by kernel_rfl)) ?_
  refine Hs.run0 300 (fun _ => by kernel_rfl) ?_
  refine Hs.condF (by kernel_rfl) ?_
  refine Hs.run0 300 (fun _ => by kernel_rfl) ?_
  refine Hs.inl Try.func36 [.c (.p 4 0), .g m.sc] (by kernel_rfl) (by kernel_rfl) ?_
  refine Hs.run1 300 (fun _ => by kernel_rfl) fun b8 => ?_
  refine Hs.cond (!(m.name.toList == session.toList)) (by kernel_rfl) (fun hn => ?_) (fun hn => ?_)
  · have hn : m.name ≠ session := fun h => by rw [(bytes_list _ _).2 h] at hn; cases hn
    have e : openR l lim m = ⟨l, false, [(92, m.sender)], [], 0⟩ := by unfold openR; rw [if_pos hn]
    rw [e]
    refine Hs.run0 300 (fun _ => by kernel_rfl) ?_
    refine Hs.condT (by kernel_rfl) ?_
    refine Hs.run0 300 (fun _ => by kernel_rfl) ?_
    refine Hs.inl Try.func47 [.c (.p 4 0), .c (.v (MD.val (⟨92, m.sender, 0, 0, 0, 3, ⟨#[]⟩, ⟨#[]⟩, false, none, 0, []⟩ : MD)))] (by kernel_rfl) (by kernel_rfl) ?_
    refine Hs.run1 300 (fun _ => by kernel_rfl) fun q0 => ?_
    refine Hs.any [4, 9, 1010] (by kernel_rfl) ?_
    refine Hs.run1 300 (fun _ => by kernel_rfl) fun q1 => ?_
    refine Hs.app (c := 1) (ty := 31) 5 elemMs [] [(⟨92, m.sender, 0, 0, 0, 3, ⟨#[]⟩, ⟨#[]⟩, false, none, 0, []⟩ : MD)] 0 1 rfl rfl mdr_one mdr_len (A := none) (B := some ⟨q1, 0, none⟩) (cap := 0) (by kernel_rfl) (by kernel_rfl) (by kernel_rfl) (fun w' H => H.rdB (gs := [(⟨92, m.sender, 0, 0, 0, 3, ⟨#[]⟩, ⟨#[]⟩, false, none, 0, []⟩ : MD)]) 10 (wr := true) (T := 28) (cs := (⟨92, m.sender, 0, 0, 0, 3, ⟨#[]⟩, ⟨#[]⟩, false, none, 0, []⟩ : MD).row.map SC.v) (by kernel_rfl) rfl) (by decide) by_ms fun oA oC ho => ?_
    refine Hs.run0 300 (fun _ => by kernel_rfl) ?_
    refine Hs.retI Try.func47 (by kernel_rfl) (by kernel_rfl) (by kernel_rfl) ?_
    refine Hs.run0 300 (fun _ => by kernel_rfl) ?_
    refine Hs.retI Try.func36 (by kernel_rfl) (by kernel_rfl) (by kernel_rfl) ?_
    refine Hs.run0 300 (fun _ => by kernel_rfl) ?_
    refine Hs.any [4] (by kernel_rfl) ?_
    refine Hs.run0 300 (fun _ => by kernel_rfl) ?_
    exact Hs.ret (v := .tuple #[MX.val ⟨A, cap, l, lim, false⟩, .slice oA 1 oC, .slice none 0 0, .int .i64 0]) Try.func9 (by kernel_rfl) fun w' H => ⟨A, cap, oA, oC, none, 0, rfl, H.only, ⟨H.fresh 3 rfl (by kernel_rfl), ⟨[(⟨92, m.sender, 0, 0, 0, 3, ⟨#[]⟩, ⟨#[]⟩, false, none, 0, []⟩ : MD)], rfl, H.fresh 5 rfl (by kernel_rfl)⟩, ⟨[], rfl, H.fresh 6 rfl (by kernel_rfl)⟩⟩⟩
  have hn : m.name = session := (bytes_list _ _).1 (by simpa using hn)
  refine Hs.run0 300 (fun _ => by kernel_rfl) ?_
  refine Hs.condP ((l.length : Int) ≥ 8) (by kernel_rfl) (fun h8 => ?_) (fun h8 => ?_)
  · have e : openR l lim m = ⟨l, false, [(92, m.sender)], [], 0⟩ := by unfold openR; rw [if_neg (by simp [hn]), if_pos (by omega)]
    rw [e]
    refine Hs.run0 300 (fun _ => by kernel_rfl) ?_
    refine Hs.condT (by kernel_rfl) ?_
    refine Hs.run0 300 (fun _ => by kernel_rfl) ?_
    refine Hs.inl Try.func47 [.c (.p 4 0), .c (.v (MD.val (⟨92, m.sender, 0, 0, 0, 4, ⟨#[]⟩, ⟨#[]⟩, false, none, 0, []⟩ : MD)))] (by kernel_rfl) (by kernel_rfl) ?_
    refine Hs.run1 300 (fun _ => by kernel_rfl) fun q0 => ?_
    refine Hs.any [4, 9, 1010] (by kernel_rfl) ?_
    refine Hs.run1 300 (fun _ => by kernel_rfl) fun q1 => ?_
    refine Hs.app (c := 1) (ty := 31) 5 elemMs [] [(⟨92, m.sender, 0, 0, 0, 4, ⟨#[]⟩, ⟨#[]⟩, false, none, 0, []⟩ : MD)] 0 1 rfl rfl mdr_one mdr_len (A := none) (B := some ⟨q1, 0, none⟩) (cap := 0) (by kernel_rfl) (by kernel_rfl) (by kernel_rfl) (fun w' H => H.rdB (gs := [(⟨92, m.sender, 0, 0, 0, 4, ⟨#[]⟩, ⟨#[]⟩, false, none, 0, []⟩ : MD)]) 10 (wr := true) (T := 28) (cs := (⟨92, m.sender, 0, 0, 0, 4, ⟨#[]⟩, ⟨#[]⟩, false, none, 0, []⟩ : MD).row.map SC.v) (by kernel_rfl) rfl) (by decide) by_ms fun oA oC ho => ?_
    refine Hs.run0 300 (fun _ => by kernel_rfl) ?_
    refine Hs.retI Try.func47 (by kernel_rfl) (by kernel_rfl) (by kernel_rfl) ?_
    refine Hs.run0 300 (fun _ => by kernel_rfl) ?_
    refine Hs.retI Try.func36 (by kernel_rfl) (by kernel_rfl) (by kernel_rfl) ?_
    refine Hs.run0 300 (fun _ => by kernel_rfl) ?_
    refine Hs.any [4] (by kernel_rfl) ?_
    refine Hs.run0 300 (fun _ => by kernel_rfl) ?_
    exact Hs.ret (v := .tuple #[MX.val ⟨A, cap, l, lim, false⟩, .slice oA 1 oC, .slice none 0 0, .int .i64 0]) Try.func9 (by kernel_rfl) fun w' H => ⟨A, cap, oA, oC, none, 0, rfl, H.only, ⟨H.fresh 3 rfl (by kernel_rfl), ⟨[(⟨92, m.sender, 0, 0, 0, 4, ⟨#[]⟩, ⟨#[]⟩, false, none, 0, []⟩ : MD)], rfl, H.fresh 5 rfl (by kernel_rfl)⟩, ⟨[], rfl, H.fresh 6 rfl (by kernel_rfl)⟩⟩⟩
  have h8 : ¬ 8 ≤ l.length := by omega
  refine Hs.run0 300 (fun _ => by kernel_rfl) ?_
  refine Hs.condF (by kernel_rfl) ?_
  refine Hs.run0 300 (fun _ => by kernel_rfl) ?_
  refine Hs.inl Try.func48 [.c (.v (.slice A l.length cap)), .c (.v (.func (.func 49) #[] #[.pointer (some ⟨b8, 0, none⟩)]))] (by kernel_rfl) (by kernel_rfl) ?_
  refine Hs.run0 300 (fun _ => by kernel_rfl) ?_
  refine Hs.callV (fun w' H => index_open1 (remP m.sender) (.pointer (some ⟨b8, 0, none⟩)) l A cap _ rfl w' (H.rdX 3 (A := A) (cap := cap) (E := 45) (size := 12) rfl (by kernel_rfl)) (Nat.le_trans h1 h2) fun c w2 O2 => open1_any c m b8 w2 (Blk.only (H.at 8 (wr := true) (cs := m.sc) (by kernel_rfl)) O2 (by simp))) (by kernel_rfl) ?_
  refine Hs.run0 300 (fun _ => by kernel_rfl) ?_
  refine Hs.retI Try.func48 (by kernel_rfl) (by kernel_rfl) (by kernel_rfl) ?_
  refine Hs.run0 300 (fun _ => by kernel_rfl) ?_
  refine Hs.condP (ixI (remP m.sender) l ≥ 0) (by kernel_rfl) (fun hr => ?_) (fun hr => ?_)
  · have e : openR l lim m = wrongR l 4 := by unfold openR; rw [if_neg (by simp [hn]), if_neg h8, if_pos (ixI_any.1 hr)]
    rw [e]
    refine Hs.run0 300 (fun _ => by kernel_rfl) ?_
    refine Hs.inl Try.func42 [.c (.p 4 0), .c (.v (.int .i64 4))] (by kernel_rfl) (by kernel_rfl) ?_
    refine Hs.run0 300 (fun _ => by kernel_rfl) ?_
    refine Hs.inl Try.func14 [.g (MX.sc ⟨A, cap, l, lim, false⟩)] (by kernel_rfl) (by kernel_rfl) ?_
    refine Hs.run2 300 (fun _ => by kernel_rfl) fun p0 p1 => ?_
    refine Hs.callS (cf := CH.cells) (E := 45) (size := 12) (fun A cap => MX.val ⟨A, cap, l, lim, false⟩) (l) (l).length rfl (fun w' H => twin_any ⟨A, cap, l, lim, false⟩ w' ⟨H.rdX 3 (A := A) (cap := cap) (E := 45) (size := 12) rfl (by kernel_rfl), h1, h2, hx.chs, hx.lim⟩ hf) (by kernel_rfl) (by kernel_rfl) fun A2 cap2 h3 h4 => ?_
    refine Hs.run0 300 (fun _ => by kernel_rfl) ?_
    refine Hs.condF (by kernel_rfl) ?_
    refine Hs.run1 300 (fun _ => by kernel_rfl) fun p3 => ?_
    refine Hs.mark 12 26 5 protoB 14 Try.underlying26 Try.underlying5 (by kernel_rfl) (by kernel_rfl) (by kernel_rfl) ?_
    refine Hs.run1 300 (fun _ => by kernel_rfl) fun p4 => ?_
    refine Hs.retI Try.func14 (by kernel_rfl) (by kernel_rfl) (by kernel_rfl) ?_
    refine Hs.run0 300 (fun _ => by kernel_rfl) ?_
    refine Hs.retI Try.func42 (by kernel_rfl) (by kernel_rfl) (by kernel_rfl) ?_
    refine Hs.run0 300 (fun _ => by kernel_rfl) ?_
    refine Hs.retI Try.func36 (by kernel_rfl) (by kernel_rfl) (by kernel_rfl) ?_
    refine Hs.run0 300 (fun _ => by kernel_rfl) ?_
    refine Hs.any [4] (by kernel_rfl) ?_
    refine Hs.run0 300 (fun _ => by kernel_rfl) ?_
    exact Hs.ret (v := .tuple #[MX.val ⟨A2, cap2, l, lim, true⟩, .slice (some ⟨p4, 0, none⟩) 1 1, .slice none 0 0, .int .i64 4]) Try.func9 (by kernel_rfl) fun w' H => ⟨A2, cap2, some ⟨p4, 0, none⟩, 1, none, 0, rfl, H.only, ⟨H.fresh 11 rfl (by kernel_rfl), ⟨[faultM p3], rfl, H.freshB 13 [faultM p3] rfl (by kernel_rfl : _ = some (HB.b true 28 ((faultM p3).row.map SC.v))) rfl mdr_len (show 1 ≤ maxLen by decide)⟩, ⟨[], rfl, H.fresh 6 rfl (by kernel_rfl)⟩⟩⟩
  have e : openR l lim m = ⟨insL (atN (newC l lim m) l) (newC l lim m) l, false, [(91, m.sender)], [1], 0⟩ := by
    unfold openR; rw [if_neg (by simp [hn]), if_neg h8, if_neg (fun h => hr (ixI_any.2 h))]
  rw [e]
  clear e
  have hat := atN_le (newC l lim m) l
  have hins := insL_len (c := (newC l lim m)) hat
  have hfc : Few ((newC l lim m) :: l) := by unfold Few; simp only [List.length_cons]; omega
  refine Hs.run0 300 (fun _ => by kernel_rfl) ?_
  refine Hs.cut (ι := Nat × (Nat → Value)) (fun i => ([b0, b1, b2, 0, b4, 0, 0, 0, b8, i.1], ⟨.no, afterR Try.f36 10, pins [(0, .c (.p 4 0)), (3, .c (.p 8 0)), (5, .c (.p 9 0))] (.vals i.2), [.b true 34 (MX.sc ⟨xA, xcap, l, lim, false⟩), .b true 28 m.sc, .b true 34 [.v (.slice none 0 0), .v (.int .u32 0), .v (.bool false)], .s A cap l.length 45 12 (l.flatMap CH.cells), .b true 81 (TK.sc ⟨⟨A, cap, l, lim, false⟩, .slice none 0 0, .slice none 0 0, 0⟩), .s none 0 0 28 10 [], .s none 0 0 77 6 [], .q true (some ⟨r, 0, none⟩) (fun w' => MapM (kI .i64) w' r kindsL) MapM.st, .b true 28 m.sc, .b true 45 (CH.sc (newC l lim m))]⟩)) (fun K => ?_) (fun i => ?_)
  · refine Hs.any [4, 8] (by kernel_rfl) ?_
    refine Hs.run0 300 (fun _ => by kernel_rfl) ?_
    refine Hs.branch2 1 21 (by kernel_rfl) ?_ ?_
    · refine Hs.callV (fun w' H => tkFree_any ⟨⟨A, cap, l, lim, false⟩, .slice none 0 0, .slice none 0 0, 0⟩ b4 w' (H.at 4 (wr := true) (cs := TK.sc ⟨⟨A, cap, l, lim, false⟩, .slice none 0 0, .slice none 0 0, 0⟩) (by kernel_rfl)) ⟨H.rdX 3 (A := A) (cap := cap) (E := 45) (size := 12) rfl (by kernel_rfl), h1, h2, hx.chs, hx.lim⟩ (by show l.length < 1000; omega)) (by kernel_rfl) ?_
      refine Hs.runU1 (afterR Try.f36 10).length [] 300 (fun _ => by kernel_rfl) fun b9 => ?_
      exact Hs.goto (afterR Try.f36 10) [0, 1, 2, 3, 4, 5, 6, 7, 8, 9] [.b true 34 (MX.sc ⟨xA, xcap, l, lim, false⟩), .b true 28 m.sc, .b true 34 [.v (.slice none 0 0), .v (.int .u32 0), .v (.bool false)], .s A cap l.length 45 12 (l.flatMap CH.cells), .b true 81 (TK.sc ⟨⟨A, cap, l, lim, false⟩, .slice none 0 0, .slice none 0 0, 0⟩), .s none 0 0 28 10 [], .s none 0 0 77 6 [], .q true (some ⟨r, 0, none⟩) (fun w' => MapM (kI .i64) w' r kindsL) MapM.st, .b true 28 m.sc, .b true 45 (CH.sc (newC l lim m))] [(0, .c (.p 4 0)), (3, .c (.p 8 0)), (5, .c (.p 9 0))] (by kernel_rfl) (by decide) (by kernel_rfl) (by kernel_rfl) (fun _ => (by kernel_rfl)) (fun u => K (b9, u))
    · refine Hs.run1 300 (fun _ => by kernel_rfl) fun b9 => ?_
      refine Hs.callV (fun w' H => tkFree_any ⟨⟨A, cap, l, lim, false⟩, .slice none 0 0, .slice none 0 0, 0⟩ b4 w' (H.at 4 (wr := true) (cs := TK.sc ⟨⟨A, cap, l, lim, false⟩, .slice none 0 0, .slice none 0 0, 0⟩) (by kernel_rfl)) ⟨H.rdX 3 (A := A) (cap := cap) (E := 45) (size := 12) rfl (by kernel_rfl), h1, h2, hx.chs, hx.lim⟩ (by show l.length < 1000; omega)) (by kernel_rfl) ?_
      refine Hs.runU0 (afterR Try.f36 10).length [] 300 (fun _ => by kernel_rfl) ?_
      exact Hs.goto (afterR Try.f36 10) [0, 1, 2, 3, 4, 5, 6, 7, 8, 9] [.b true 34 (MX.sc ⟨xA, xcap, l, lim, false⟩), .b true 28 m.sc, .b true 34 [.v (.slice none 0 0), .v (.int .u32 0), .v (.bool false)], .s A cap l.length 45 12 (l.flatMap CH.cells), .b true 81 (TK.sc ⟨⟨A, cap, l, lim, false⟩, .slice none 0 0, .slice none 0 0, 0⟩), .s none 0 0 28 10 [], .s none 0 0 77 6 [], .q true (some ⟨r, 0, none⟩) (fun w' => MapM (kI .i64) w' r kindsL) MapM.st, .b true 28 m.sc, .b true 45 (CH.sc (newC l lim m))] [(0, .c (.p 4 0)), (3, .c (.p 8 0)), (5, .c (.p 9 0))] (by kernel_rfl) (by decide) (by kernel_rfl) (by kernel_rfl) (fun _ => (by kernel_rfl)) (fun u => K (b9, u))
  obtain ⟨b9, u⟩ := i
  refine Hs.run0 300 (fun _ => by kernel_rfl) ?_
  refine Hs.callV (fun w' H => index_open2 (geP (CH.loc (newC l lim m))) (.pointer (some ⟨b9, 0, none⟩)) l A cap _ rfl w' (H.rdX 3 (A := A) (cap := cap) (E := 45) (size := 12) rfl (by kernel_rfl)) (Nat.le_trans h1 h2) fun d w2 O2 => open2_any d (newC l lim m) b9 w2 (Blk.only (H.at 9 (wr := true) (cs := CH.sc (newC l lim m)) (by kernel_rfl)) O2 (by simp))) (by kernel_rfl) ?_
  refine Hs.run0 300 (fun _ => by kernel_rfl) ?_
  refine Hs.condP (ixI (geP (CH.loc (newC l lim m))) l < 0) (by kernel_rfl) (fun ha => ?_) (fun ha => ?_)
  · have e : (l.length : Int) = (atN (newC l lim m) l : Nat) := by unfold atN; rw [if_pos ha]
    refine Hs.run0 300 (fun _ => by kernel_rfl) ?_
    refine Hs.slot 6 (.c (.v (.int .i64 (atN (newC l lim m) l : Nat)))) rfl ((by kernel_rfl : _ = Value.int .i64 (l.length : Int)).trans (congrArg (Value.int .i64) e)) ?_
    refine Hs.any [4, 9, 1013] (by kernel_rfl) ?_
    refine Hs.run1 300 (fun _ => by kernel_rfl) fun b10 => ?_
    refine Hs.callO (cf := CH.cells) (E := 45) (size := 12) (A := A) (cap := cap) 3 l (insL (atN (newC l lim m) l) (newC l lim m) l) l.length (l.length + 1) rfl hins (by kernel_rfl) (fun w' H hO => insert_any l A cap _ (atN (newC l lim m) l) rfl hat (newC l lim m) b10 w' hO (H.at 10 (wr := true) (cs := CH.sc (newC l lim m)) (by kernel_rfl)) (H.apart 3 10 (cap := cap) (nl := l.length) (vs := l.flatMap CH.cells) (E' := 45) (size := 12) (wr := true) (T := 45) (cs := CH.sc (newC l lim m)) (by kernel_rfl) (by kernel_rfl) (by decide)) hfc) (by kernel_rfl) (by kernel_rfl) fun A3 cap3 h5 h6 => ?_
    refine Hs.run0 300 (fun _ => by kernel_rfl) ?_
    refine Hs.any [4, 8, 9, 1011] (by kernel_rfl) ?_
    refine Hs.run0 300 (fun _ => by kernel_rfl) ?_
    refine Hs.inl Try.func47 [.c (.p 4 0), .c (.v (MD.val (⟨91, m.sender, (freeN l : Int), lim, 32768, 0, ⟨#[]⟩, ⟨#[]⟩, false, none, 0, []⟩ : MD)))] (by kernel_rfl) (by kernel_rfl) ?_
    refine Hs.run1 300 (fun _ => by kernel_rfl) fun q0 => ?_
    refine Hs.any [4, 11, 1010] (by kernel_rfl) ?_
    refine Hs.run1 300 (fun _ => by kernel_rfl) fun q1 => ?_
    refine Hs.app (c := 1) (ty := 31) 5 elemMs [] [(⟨91, m.sender, (freeN l : Int), lim, 32768, 0, ⟨#[]⟩, ⟨#[]⟩, false, none, 0, []⟩ : MD)] 0 1 rfl rfl mdr_one mdr_len (A := none) (B := some ⟨q1, 0, none⟩) (cap := 0) (by kernel_rfl) (by kernel_rfl) (by kernel_rfl) (fun w' H => H.rdB (gs := [(⟨91, m.sender, (freeN l : Int), lim, 32768, 0, ⟨#[]⟩, ⟨#[]⟩, false, none, 0, []⟩ : MD)]) 12 (wr := true) (T := 28) (cs := (⟨91, m.sender, (freeN l : Int), lim, 32768, 0, ⟨#[]⟩, ⟨#[]⟩, false, none, 0, []⟩ : MD).row.map SC.v) (by kernel_rfl) rfl) (by decide) by_ms fun oA oC ho => ?_
    refine Hs.run0 300 (fun _ => by kernel_rfl) ?_
    refine Hs.retI Try.func47 (by kernel_rfl) (by kernel_rfl) (by kernel_rfl) ?_
    refine Hs.run0 300 (fun _ => by kernel_rfl) ?_
    refine Hs.inl Try.func46 [.c (.p 4 0), .c (.v (EV.val (⟨1, (freeN l : Int), 0, ⟨#[]⟩, false, none, 0, 0⟩ : EV)))] (by kernel_rfl) (by kernel_rfl) ?_
    refine Hs.run1 300 (fun _ => by kernel_rfl) fun q0 => ?_
    refine Hs.any [4, 13, 1010] (by kernel_rfl) ?_
    refine Hs.run1 300 (fun _ => by kernel_rfl) fun q1 => ?_
    refine Hs.app (c := 1) (ty := 36) 6 elemEv [] [(⟨1, (freeN l : Int), 0, ⟨#[]⟩, false, none, 0, 0⟩ : EV)] 0 1 rfl rfl ev_one ev_len (A := none) (B := some ⟨q1, 0, none⟩) (cap := 0) (by kernel_rfl) (by kernel_rfl) (by kernel_rfl) (fun w' H => H.rdB (gs := [(⟨1, (freeN l : Int), 0, ⟨#[]⟩, false, none, 0, 0⟩ : EV)]) 14 (wr := true) (T := 77) (cs := (⟨1, (freeN l : Int), 0, ⟨#[]⟩, false, none, 0, 0⟩ : EV).row.map SC.v) (by kernel_rfl) rfl) (by decide) by_ev fun eA eC ho => ?_
    refine Hs.run0 300 (fun _ => by kernel_rfl) ?_
    refine Hs.retI Try.func46 (by kernel_rfl) (by kernel_rfl) (by kernel_rfl) ?_
    refine Hs.run0 300 (fun _ => by kernel_rfl) ?_
    refine Hs.retI Try.func36 (by kernel_rfl) (by kernel_rfl) (by kernel_rfl) ?_
    refine Hs.run0 300 (fun _ => by kernel_rfl) ?_
    refine Hs.any [4] (by kernel_rfl) ?_
    refine Hs.run0 300 (fun _ => by kernel_rfl) ?_
    exact Hs.ret (v := .tuple #[.agg #[.slice A3 (l.length + 1) cap3, .int .u32 lim, .bool false], .slice oA 1 oC, .slice eA 1 eC, .int .i64 0]) Try.func9 (by kernel_rfl) fun w' H => ⟨A3, cap3, oA, oC, eA, eC, by simp only [MX.val, hins]; rfl, H.only, ⟨by dsimp only; rw [hins]; exact H.fresh 3 hins (by kernel_rfl), ⟨[(⟨91, m.sender, (freeN l : Int), lim, 32768, 0, ⟨#[]⟩, ⟨#[]⟩, false, none, 0, []⟩ : MD)], rfl, H.fresh 5 rfl (by kernel_rfl)⟩, ⟨[(⟨1, (freeN l : Int), 0, ⟨#[]⟩, false, none, 0, 0⟩ : EV)], rfl, H.fresh 6 rfl (by kernel_rfl)⟩⟩⟩
  · have e : (ixI (geP (CH.loc (newC l lim m))) l : Int) = (atN (newC l lim m) l : Nat) := by unfold atN; rw [if_neg ha]; omega
    refine Hs.run0 300 (fun _ => by kernel_rfl) ?_
    refine Hs.slot 6 (.c (.v (.int .i64 (atN (newC l lim m) l : Nat)))) rfl ((by kernel_rfl : _ = Value.int .i64 (ixI (geP (CH.loc (newC l lim m))) l)).trans (congrArg (Value.int .i64) e)) ?_
    refine Hs.any [4, 9, 1013] (by kernel_rfl) ?_
    refine Hs.run1 300 (fun _ => by kernel_rfl) fun b10 => ?_
    refine Hs.callO (cf := CH.cells) (E := 45) (size := 12) (A := A) (cap := cap) 3 l (insL (atN (newC l lim m) l) (newC l lim m) l) l.length (l.length + 1) rfl hins (by kernel_rfl) (fun w' H hO => insert_any l A cap _ (atN (newC l lim m) l) rfl hat (newC l lim m) b10 w' hO (H.at 10 (wr := true) (cs := CH.sc (newC l lim m)) (by kernel_rfl)) (H.apart 3 10 (cap := cap) (nl := l.length) (vs := l.flatMap CH.cells) (E' := 45) (size := 12) (wr := true) (T := 45) (cs := CH.sc (newC l lim m)) (by kernel_rfl) (by kernel_rfl) (by decide)) hfc) (by kernel_rfl) (by kernel_rfl) fun A3 cap3 h5 h6 => ?_
    refine Hs.run0 300 (fun _ => by kernel_rfl) ?_
    refine Hs.any [4, 8, 9, 1011] (by kernel_rfl) ?_
    refine Hs.run0 300 (fun _ => by kernel_rfl) ?_
    refine Hs.inl Try.func47 [.c (.p 4 0), .c (.v (MD.val (⟨91, m.sender, (freeN l : Int), lim, 32768, 0, ⟨#[]⟩, ⟨#[]⟩, false, none, 0, []⟩ : MD)))] (by kernel_rfl) (by kernel_rfl) ?_
    refine Hs.run1 300 (fun _ => by kernel_rfl) fun q0 => ?_
    refine Hs.any [4, 11, 1010] (by kernel_rfl) ?_
    refine Hs.run1 300 (fun _ => by kernel_rfl) fun q1 => ?_
    refine Hs.app (c := 1) (ty := 31) 5 elemMs [] [(⟨91, m.sender, (freeN l : Int), lim, 32768, 0, ⟨#[]⟩, ⟨#[]⟩, false, none, 0, []⟩ : MD)] 0 1 rfl rfl mdr_one mdr_len (A := none) (B := some ⟨q1, 0, none⟩) (cap := 0) (by kernel_rfl) (by kernel_rfl) (by kernel_rfl) (fun w' H => H.rdB (gs := [(⟨91, m.sender, (freeN l : Int), lim, 32768, 0, ⟨#[]⟩, ⟨#[]⟩, false, none, 0, []⟩ : MD)]) 12 (wr := true) (T := 28) (cs := (⟨91, m.sender, (freeN l : Int), lim, 32768, 0, ⟨#[]⟩, ⟨#[]⟩, false, none, 0, []⟩ : MD).row.map SC.v) (by kernel_rfl) rfl) (by decide) by_ms fun oA oC ho => ?_
    refine Hs.run0 300 (fun _ => by kernel_rfl) ?_
    refine Hs.retI Try.func47 (by kernel_rfl) (by kernel_rfl) (by kernel_rfl) ?_
    refine Hs.run0 300 (fun _ => by kernel_rfl) ?_
    refine Hs.inl Try.func46 [.c (.p 4 0), .c (.v (EV.val (⟨1, (freeN l : Int), 0, ⟨#[]⟩, false, none, 0, 0⟩ : EV)))] (by kernel_rfl) (by kernel_rfl) ?_
    refine Hs.run1 300 (fun _ => by kernel_rfl) fun q0 => ?_
    refine Hs.any [4, 13, 1010] (by kernel_rfl) ?_
    refine Hs.run1 300 (fun _ => by kernel_rfl) fun q1 => ?_
    refine Hs.app (c := 1) (ty := 36) 6 elemEv [] [(⟨1, (freeN l : Int), 0, ⟨#[]⟩, false, none, 0, 0⟩ : EV)] 0 1 rfl rfl ev_one ev_len (A := none) (B := some ⟨q1, 0, none⟩) (cap := 0) (by kernel_rfl) (by kernel_rfl) (by kernel_rfl) (fun w' H => H.rdB (gs := [(⟨1, (freeN l : Int), 0, ⟨#[]⟩, false, none, 0, 0⟩ : EV)]) 14 (wr := true) (T := 77) (cs := (⟨1, (freeN l : Int), 0, ⟨#[]⟩, false, none, 0, 0⟩ : EV).row.map SC.v) (by kernel_rfl) rfl) (by decide) by_ev fun eA eC ho => ?_
    refine Hs.run0 300 (fun _ => by kernel_rfl) ?_
    refine Hs.retI Try.func46 (by kernel_rfl) (by kernel_rfl) (by kernel_rfl) ?_
    refine Hs.run0 300 (fun _ => by kernel_rfl) ?_
    refine Hs.retI Try.func36 (by kernel_rfl) (by kernel_rfl) (by kernel_rfl) ?_
    refine Hs.run0 300 (fun _ => by kernel_rfl) ?_
    refine Hs.any [4] (by kernel_rfl) ?_
    refine Hs.run0 300 (fun _ => by kernel_rfl) ?_
    exact Hs.ret (v := .tuple #[.agg #[.slice A3 (l.length + 1) cap3, .int .u32 lim, .bool false], .slice oA 1 oC, .slice eA 1 eC, .int .i64 0]) Try.func9 (by kernel_rfl) fun w' H => ⟨A3, cap3, oA, oC, eA, eC, by simp only [MX.val, hins]; rfl, H.only, ⟨by dsimp only; rw [hins]; exact H.fresh 3 hins (by kernel_rfl), ⟨[(⟨91, m.sender, (freeN l : Int), lim, 32768, 0, ⟨#[]⟩, ⟨#[]⟩, false, none, 0, []⟩ : MD)], rfl, H.fresh 5 rfl (by kernel_rfl)⟩, ⟨[(⟨1, (freeN l : Int), 0, ⟨#[]⟩, false, none, 0, 0⟩ : EV)], rfl, H.fresh 6 rfl (by kernel_rfl)⟩⟩⟩
end Go.Proofs.Ytbamojbkehnmkaa
