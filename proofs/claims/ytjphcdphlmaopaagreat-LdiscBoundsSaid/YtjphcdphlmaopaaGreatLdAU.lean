/- Layers 15, 16: what a program's wish does to a flow and to a discipline; for all settings and numbers; no condition. -/
import Derived.Test.YtjphcdphlmaopaaGreatPkG
namespace Go.Proofs.YtjphcdphlmaopaaGreat
set_option linter.all false
set_option maxRecDepth 100000
open Go.RowKit

def wishS (st : Bool) (what : Int) : Bool := if what = 1 then true else if what = 2 then false else st
def wishO (t : TM) (what : Int) : List Int := if what = 3 then tellC t 9 else if what = 4 then tellC t 8 else []
def wishesV : Value := .agg #[.func (.func 64) #[] #[], .func (.func 66) #[] #[], .func (.func 67) #[] #[], .func (.func 93) #[] #[], .func (.func 94) #[] #[]]
theorem wishes_any (w : World) : Calls Tryz.prog 113 #[] w fun e w' => e = .returned wishesV ∧ Only [] w w' := by
  refine Hs.enter Tryz.func113 [] [] [] [] (Mem.start0 w) (by kernel_rfl) (by kernel_rfl) ?_
  refine Hs.run1 300 (fun _ => by kernel_rfl) fun b0 => ?_
  exact Hs.ret (v := wishesV) Tryz.func113 (by kernel_rfl) fun w' H => ⟨rfl, H.only⟩
set_option maxHeartbeats 4000000 in
theorem askF_any (t : TM) (st held : Bool) (what : Int) (h : 1 ≤ what ∧ what ≤ 4) (w : World) : Calls Tryz.prog 92 #[t.val, .agg #[.bool st, .bool held], .int .i64 what] w (OwnU (wishO t what) w fun A cap => .tuple #[.agg #[.bool (wishS st what), .bool held], .slice A (wishO t what).length cap, .int .i64 0]) := by
  have hw : what = 1 ∨ what = 2 ∨ what = 3 ∨ what = 4 := by omega
  refine Hs.enter Tryz.func92 [] [] [] [.g t.sc, .g [.v (.bool st), .v (.bool held)], .c (.v (.int .i64 what))] (Mem.start0 w) (by kernel_rfl) (by kernel_rfl) ?_
  refine Hs.run3 300 (fun _ => by kernel_rfl) fun b0 b1 b2 => ?_
  refine Hs.nilS 5 1 (by kernel_rfl) ?_ (by kernel_rfl)
  refine Hs.run0 300 (fun _ => by kernel_rfl) ?_
  refine Hs.bool 12 (decide (what < 1)) (by kernel_rfl) (fun hx => by simp at hx; omega) (fun _ => ?_)
  refine Hs.rung0 [2] 300 (fun _ => by kernel_rfl) ?_
  refine Hs.condP (what > 4) (by kernel_rfl) (fun hx => by omega) (fun _ => ?_)
  rcases hw with rfl | rfl | rfl | rfl
  · refine Hs.run1 300 (fun _ => by kernel_rfl) fun b3 => ?_
    refine Hs.callV (fun w' H => wishes_any w') (by kernel_rfl) ?_
    refine Hs.run0 300 (fun _ => by kernel_rfl) ?_
    refine Hs.inl Tryz.func66 [.c (.p 4 0)] (by kernel_rfl) (by kernel_rfl) ?_
    refine Hs.run0 300 (fun _ => by kernel_rfl) ?_
    refine Hs.retI Tryz.func66 (by kernel_rfl) (by kernel_rfl) (by kernel_rfl) ?_
    refine Hs.run0 300 (fun _ => by kernel_rfl) ?_
    refine Hs.any [4] (by kernel_rfl) ?_
    refine Hs.run0 300 (fun _ => by kernel_rfl) ?_
    exact Hs.ret (v := .tuple #[.agg #[.bool true, .bool held], (.slice none 0 0), .int .i64 0]) Tryz.func92 (by kernel_rfl) fun w' H => ⟨none, 0, rfl, H.only, H.fresh 3 rfl (by kernel_rfl)⟩
  · refine Hs.run1 300 (fun _ => by kernel_rfl) fun b3 => ?_
    refine Hs.callV (fun w' H => wishes_any w') (by kernel_rfl) ?_
    refine Hs.run0 300 (fun _ => by kernel_rfl) ?_
    refine Hs.inl Tryz.func67 [.c (.p 4 0)] (by kernel_rfl) (by kernel_rfl) ?_
    refine Hs.run0 300 (fun _ => by kernel_rfl) ?_
    refine Hs.retI Tryz.func67 (by kernel_rfl) (by kernel_rfl) (by kernel_rfl) ?_
    refine Hs.run0 300 (fun _ => by kernel_rfl) ?_
    refine Hs.any [4] (by kernel_rfl) ?_
    refine Hs.run0 300 (fun _ => by kernel_rfl) ?_
    exact Hs.ret (v := .tuple #[.agg #[.bool false, .bool held], (.slice none 0 0), .int .i64 0]) Tryz.func92 (by kernel_rfl) fun w' H => ⟨none, 0, rfl, H.only, H.fresh 3 rfl (by kernel_rfl)⟩
  · refine Hs.run1 300 (fun _ => by kernel_rfl) fun b3 => ?_
    refine Hs.callV (fun w' H => wishes_any w') (by kernel_rfl) ?_
    refine Hs.run0 300 (fun _ => by kernel_rfl) ?_
    refine Hs.inl Tryz.func93 [.c (.p 4 0)] (by kernel_rfl) (by kernel_rfl) ?_
    refine Hs.run0 300 (fun _ => by kernel_rfl) ?_
    refine Hs.inl Tryz.func114 [.c (.p 4 0), .c (.v (.int .i64 9))] (by kernel_rfl) (by kernel_rfl) ?_
    refine Hs.run0 300 (fun _ => by kernel_rfl) ?_
    refine Hs.callV (fun w' H => char_any t 9 (by decide) (by decide) w') (by kernel_rfl) ?_
    refine Hs.run0 300 (fun _ => by kernel_rfl) ?_
    refine Hs.cond (t.on 9) (by kernel_rfl) (fun ho => ?_) (fun ho => ?_)
    · have e2 : wishO t 3 = [t.chr 9] := by simp [wishO, tellC, ho]
      rw [e2]
      refine Hs.run1 300 (fun _ => by kernel_rfl) fun b5 => ?_
      refine Hs.app (c := 1) (ty := 27) 3 elemU8 [] [t.chr 9] 0 1 rfl rfl cu8_one cu8_len (A := none) (B := some ⟨b5, 0, none⟩) (cap := 0) (by kernel_rfl) (by kernel_rfl) (by kernel_rfl) (fun w' H => H.rdB (gs := [t.chr 9]) 5 (wr := true) (T := 5) (cs := [.v (.int .u8 (t.chr 9))]) (by kernel_rfl) rfl) (by unfold maxLen; omega) (by rw [by_u8]; omega) fun A3 c3 h3 => ?_
      refine Hs.run0 300 (fun _ => by kernel_rfl) ?_
      refine Hs.retI Tryz.func114 (by kernel_rfl) (by kernel_rfl) (by kernel_rfl) ?_
      refine Hs.run0 300 (fun _ => by kernel_rfl) ?_
      refine Hs.retI Tryz.func93 (by kernel_rfl) (by kernel_rfl) (by kernel_rfl) ?_
      refine Hs.run0 300 (fun _ => by kernel_rfl) ?_
      refine Hs.any [4] (by kernel_rfl) ?_
      refine Hs.run0 300 (fun _ => by kernel_rfl) ?_
      exact Hs.ret (v := .tuple #[.agg #[.bool st, .bool held], (.slice A3 1 c3), .int .i64 0]) Tryz.func92 (by kernel_rfl) fun w' H => ⟨A3, c3, rfl, H.only, H.fresh 3 rfl (by kernel_rfl)⟩
    · have e2 : wishO t 3 = [] := by simp [wishO, tellC, ho]
      rw [e2]
      refine Hs.run0 300 (fun _ => by kernel_rfl) ?_
      refine Hs.retI Tryz.func114 (by kernel_rfl) (by kernel_rfl) (by kernel_rfl) ?_
      refine Hs.run0 300 (fun _ => by kernel_rfl) ?_
      refine Hs.retI Tryz.func93 (by kernel_rfl) (by kernel_rfl) (by kernel_rfl) ?_
      refine Hs.run0 300 (fun _ => by kernel_rfl) ?_
      refine Hs.any [4] (by kernel_rfl) ?_
      refine Hs.run0 300 (fun _ => by kernel_rfl) ?_
      exact Hs.ret (v := .tuple #[.agg #[.bool st, .bool held], (.slice none 0 0), .int .i64 0]) Tryz.func92 (by kernel_rfl) fun w' H => ⟨none, 0, rfl, H.only, H.fresh 3 rfl (by kernel_rfl)⟩
  · refine Hs.run1 300 (fun _ => by kernel_rfl) fun b3 => ?_
    refine Hs.callV (fun w' H => wishes_any w') (by kernel_rfl) ?_
    refine Hs.run0 300 (fun _ => by kernel_rfl) ?_
    refine Hs.inl Tryz.func94 [.c (.p 4 0)] (by kernel_rfl) (by kernel_rfl) ?_
    refine Hs.run0 300 (fun _ => by kernel_rfl) ?_
    refine Hs.inl Tryz.func114 [.c (.p 4 0), .c (.v (.int .i64 8))] (by kernel_rfl) (by kernel_rfl) ?_
    refine Hs.run0 300 (fun _ => by kernel_rfl) ?_
    refine Hs.callV (fun w' H => char_any t 8 (by decide) (by decide) w') (by kernel_rfl) ?_
    refine Hs.run0 300 (fun _ => by kernel_rfl) ?_
    refine Hs.cond (t.on 8) (by kernel_rfl) (fun ho => ?_) (fun ho => ?_)
    · have e2 : wishO t 4 = [t.chr 8] := by simp [wishO, tellC, ho]
      rw [e2]
      refine Hs.run1 300 (fun _ => by kernel_rfl) fun b5 => ?_
      refine Hs.app (c := 1) (ty := 27) 3 elemU8 [] [t.chr 8] 0 1 rfl rfl cu8_one cu8_len (A := none) (B := some ⟨b5, 0, none⟩) (cap := 0) (by kernel_rfl) (by kernel_rfl) (by kernel_rfl) (fun w' H => H.rdB (gs := [t.chr 8]) 5 (wr := true) (T := 5) (cs := [.v (.int .u8 (t.chr 8))]) (by kernel_rfl) rfl) (by unfold maxLen; omega) (by rw [by_u8]; omega) fun A3 c3 h3 => ?_
      refine Hs.run0 300 (fun _ => by kernel_rfl) ?_
      refine Hs.retI Tryz.func114 (by kernel_rfl) (by kernel_rfl) (by kernel_rfl) ?_
      refine Hs.run0 300 (fun _ => by kernel_rfl) ?_
      refine Hs.retI Tryz.func94 (by kernel_rfl) (by kernel_rfl) (by kernel_rfl) ?_
      refine Hs.run0 300 (fun _ => by kernel_rfl) ?_
      refine Hs.any [4] (by kernel_rfl) ?_
      refine Hs.run0 300 (fun _ => by kernel_rfl) ?_
      exact Hs.ret (v := .tuple #[.agg #[.bool st, .bool held], (.slice A3 1 c3), .int .i64 0]) Tryz.func92 (by kernel_rfl) fun w' H => ⟨A3, c3, rfl, H.only, H.fresh 3 rfl (by kernel_rfl)⟩
    · have e2 : wishO t 4 = [] := by simp [wishO, tellC, ho]
      rw [e2]
      refine Hs.run0 300 (fun _ => by kernel_rfl) ?_
      refine Hs.retI Tryz.func114 (by kernel_rfl) (by kernel_rfl) (by kernel_rfl) ?_
      refine Hs.run0 300 (fun _ => by kernel_rfl) ?_
      refine Hs.retI Tryz.func94 (by kernel_rfl) (by kernel_rfl) (by kernel_rfl) ?_
      refine Hs.run0 300 (fun _ => by kernel_rfl) ?_
      refine Hs.any [4] (by kernel_rfl) ?_
      refine Hs.run0 300 (fun _ => by kernel_rfl) ?_
      exact Hs.ret (v := .tuple #[.agg #[.bool st, .bool held], (.slice none 0 0), .int .i64 0]) Tryz.func92 (by kernel_rfl) fun w' H => ⟨none, 0, rfl, H.only, H.fresh 3 rfl (by kernel_rfl)⟩
set_option maxHeartbeats 4000000 in
theorem askF_bad (t : TM) (st held : Bool) (what : Int) (h : what < 1 ∨ what > 4) (w : World) : Calls Tryz.prog 92 #[t.val, .agg #[.bool st, .bool held], .int .i64 what] w (fun e w' => e = .returned (.tuple #[.agg #[.bool false, .bool false], .slice none 0 0, .int .i64 2]) ∧ Only [] w w') := by
  refine Hs.enter Tryz.func92 [] [] [] [.g t.sc, .g [.v (.bool st), .v (.bool held)], .c (.v (.int .i64 what))] (Mem.start0 w) (by kernel_rfl) (by kernel_rfl) ?_
  refine Hs.run3 300 (fun _ => by kernel_rfl) fun b0 b1 b2 => ?_
  refine Hs.bool 12 (decide (what < 1)) (by kernel_rfl) (fun hx => ?_) (fun hx => ?_)
  · refine Hs.rung0 [2] 300 (fun _ => by kernel_rfl) ?_
    refine Hs.condT (by kernel_rfl) ?_
    refine Hs.run0 300 (fun _ => by kernel_rfl) ?_
    exact Hs.ret (v := .tuple #[.agg #[.bool false, .bool false], .slice none 0 0, .int .i64 2]) Tryz.func92 (by kernel_rfl) fun w' H => ⟨rfl, H.only⟩
  · refine Hs.rung0 [2] 300 (fun _ => by kernel_rfl) ?_
    refine Hs.condP (what > 4) (by kernel_rfl) (fun _ => ?_) (fun h2 => by simp at hx; omega)
    refine Hs.run0 300 (fun _ => by kernel_rfl) ?_
    exact Hs.ret (v := .tuple #[.agg #[.bool false, .bool false], .slice none 0 0, .int .i64 2]) Tryz.func92 (by kernel_rfl) fun w' H => ⟨rfl, H.only⟩
def askD (d : DM) (what : Int) : DM := if what < 1 ∨ what > 4 then d else (putD { d with st := wishS d.st what } (wishO d.t what)).1
def askE (what : Int) : Int := if what < 1 ∨ what > 4 then 2 else 0
theorem tellC_le (t : TM) (op : Nat) : (tellC t op).length ≤ 1 := by unfold tellC; split <;> simp
theorem wishO_le (t : TM) (what : Int) : (wishO t what).length ≤ 1 := by
  unfold wishO
  split
  · exact tellC_le _ _
  · split
    · exact tellC_le _ _
    · simp
theorem ask_any (d : DM) (s : DS) (g : Nat) (what : Int) (w : World) (h : DAt w g d s) (hf : Few d) : Calls Tryz.prog 57 #[.pointer (some ⟨g, 0, none⟩), .int .i64 what] w (DPost w g s d (askD d what) (.int .i64 (askE what))) := by
  have C := Cx.start h.data (Blk.lt h.blk)
  by_cases hb : what < 1 ∨ what > 4
  · have e1 : askD d what = d := by unfold askD; rw [if_pos hb]
    have e2 : askE what = 2 := by unfold askE; rw [if_pos hb]
    rw [e1, e2]
    refine Hs.enter Tryz.func57 [g] [g] [.b true 53 (discSC d s)] [.c (.p 0 0), .c (.v (.int .i64 what))] (Mem.one w g h.blk) (by kernel_rfl) (by kernel_rfl) ?_
    refine Hs.run0 300 (fun _ => by kernel_rfl) ?_
    refine Hs.condF (by kernel_rfl) ?_
    refine Hs.run0 300 (fun _ => by kernel_rfl) ?_
    refine Hs.any [0] (by kernel_rfl) ?_
    refine Hs.run0 300 (fun _ => by kernel_rfl) ?_
    refine Hs.branch2 9 14 (by kernel_rfl) ?_ ?_
    · refine Hs.callV (fun w' H => askF_bad d.t d.st d.held what hb w') (by kernel_rfl) ?_
      refine Hs.run1 300 (fun _ => by kernel_rfl) fun b1 => ?_
      refine Hs.condF (by kernel_rfl) ?_
      refine Hs.run0 300 (fun _ => by kernel_rfl) ?_
      exact Hs.ret (v := .int .i64 2) Tryz.func57 (by kernel_rfl) fun w' H => DPost.of (s := s) (d := d) C H rfl (by kernel_rfl) fun w h => h
    · refine Hs.run1 300 (fun _ => by kernel_rfl) fun b1 => ?_
      refine Hs.callV (fun w' H => askF_bad d.t d.st d.held what hb w') (by kernel_rfl) ?_
      refine Hs.run0 300 (fun _ => by kernel_rfl) ?_
      refine Hs.condF (by kernel_rfl) ?_
      refine Hs.run0 300 (fun _ => by kernel_rfl) ?_
      exact Hs.ret (v := .int .i64 2) Tryz.func57 (by kernel_rfl) fun w' H => DPost.of (s := s) (d := d) C H rfl (by kernel_rfl) fun w h => h
  have e1 : askD d what = (putD { d with st := wishS d.st what } (wishO d.t what)).1 := by unfold askD; rw [if_neg hb]
  have e2 : askE what = 0 := by unfold askE; rw [if_neg hb]
  rw [e1, e2]
  have hm := wishO_le d.t what
  generalize ho : wishO d.t what = o at hm
  generalize hh : wishS d.st what = sd
  have K : ∀ (A1 : Option Addr) (c1 : Nat), o.length ≤ c1 → c1 ≤ maxLen → ∀ (b1 : Nat) (u : Nat → Value), Hs Tryz.prog 57 (DPost w g s d (putD { d with st := sd } o).1 (.int .i64 0)) (Tryz.f57).ntmps w [g] [g, b1, 0] ⟨.no, atR Tryz.f57 4, pins [(0, .c (.p 0 0)), (5, .c (.p 1 0)), (6, .c (.v (.slice A1 o.length c1))), (7, .c (.v (.int .i64 0)))] (.vals u), [.b true 53 (discSC d s), .b true 51 [.v (.bool sd), .v (.bool d.held)], .s A1 c1 o.length 5 1 (o.flatMap cu8)]⟩ := by
    intro A1 c1 h1 h2 b1 u
    refine Hs.run0 300 (fun _ => by kernel_rfl) ?_
    refine Hs.condT (by kernel_rfl) ?_
    refine Hs.run0 300 (fun _ => by kernel_rfl) ?_
    refine Hs.callDD (F := fun _ => True) (s := s) (d := { d with st := sd }) (d' := (putD { d with st := sd } o).1) (v := .bool (putD { d with st := sd } o).2) (C.imp fun w h => ⟨⟨h.line, h.lines, h.map, h.raw, h.out⟩, trivial⟩) rfl (by kernel_rfl) (fun w' H hD => dput_any { d with st := sd } s g A1 c1 o w' hD ⟨hf.line, hf.raw, hf.out, hf.used, hf.zero⟩ (H.keepS (A := A1) (cap := c1) (E := 5) (size := 1) 0 2 rfl (by kernel_rfl : _ = some (HB.b true 53 (discSC { d with st := sd } s)))  (by kernel_rfl) (by decide) rfl) (by omega)) (by kernel_rfl) (by kernel_rfl) (fun _ => (by kernel_rfl)) fun s1 w1 L1 C1 => ?_
    refine Hs.run0 300 (fun _ => by kernel_rfl) ?_
    exact Hs.ret (v := .int .i64 0) Tryz.func57 (by kernel_rfl) fun w' H => DPost.of (s := s1) (d := (putD { d with st := sd } o).1) C1 H rfl (by kernel_rfl) fun w h => h.1
  refine Hs.enter Tryz.func57 [g] [g] [.b true 53 (discSC d s)] [.c (.p 0 0), .c (.v (.int .i64 what))] (Mem.one w g h.blk) (by kernel_rfl) (by kernel_rfl) ?_
  refine Hs.run0 300 (fun _ => by kernel_rfl) ?_
  refine Hs.condF (by kernel_rfl) ?_
  refine Hs.run0 300 (fun _ => by kernel_rfl) ?_
  refine Hs.any [0] (by kernel_rfl) ?_
  refine Hs.run0 300 (fun _ => by kernel_rfl) ?_
  refine Hs.branch2 9 14 (by kernel_rfl) ?_ ?_
  · refine Hs.callS (cf := cu8) (E := 5) (size := 1) (fun A cap => .tuple #[.agg #[.bool sd, .bool d.held], .slice A o.length cap, .int .i64 0]) o _ rfl (fun w' H => by
      have := askF_any d.t d.st d.held what (by omega) w'
      rw [ho, hh] at this
      exact this) (by kernel_rfl) (by kernel_rfl) fun A1 c1 h1 h2 => ?_
    refine Hs.runR1 4 [] 300 (fun _ => by kernel_rfl) fun b1 => ?_
    exact Hs.goto (atR Tryz.f57 4) [0, 2, 1] [.b true 53 (discSC d s), .b true 51 [.v (.bool sd), .v (.bool d.held)], .s A1 c1 o.length 5 1 (o.flatMap cu8)] [(0, .c (.p 0 0)), (5, .c (.p 1 0)), (6, .c (.v (.slice A1 o.length c1))), (7, .c (.v (.int .i64 0)))] (by kernel_rfl) (by decide) (by kernel_rfl) (by kernel_rfl) (fun _ => (by kernel_rfl)) (fun u => K A1 c1 h1 h2 b1 u)
  · refine Hs.run1 300 (fun _ => by kernel_rfl) fun b1 => ?_
    refine Hs.callS (cf := cu8) (E := 5) (size := 1) (fun A cap => .tuple #[.agg #[.bool sd, .bool d.held], .slice A o.length cap, .int .i64 0]) o _ rfl (fun w' H => by
      have := askF_any d.t d.st d.held what (by omega) w'
      rw [ho, hh] at this
      exact this) (by kernel_rfl) (by kernel_rfl) fun A1 c1 h1 h2 => ?_
    refine Hs.runR0 4 [] 300 (fun _ => by kernel_rfl) ?_
    exact Hs.goto (atR Tryz.f57 4) [0, 1, 2] [.b true 53 (discSC d s), .b true 51 [.v (.bool sd), .v (.bool d.held)], .s A1 c1 o.length 5 1 (o.flatMap cu8)] [(0, .c (.p 0 0)), (5, .c (.p 1 0)), (6, .c (.v (.slice A1 o.length c1))), (7, .c (.v (.int .i64 0)))] (by kernel_rfl) (by decide) (by kernel_rfl) (by kernel_rfl) (fun _ => (by kernel_rfl)) (fun u => K A1 c1 h1 h2 b1 u)
end Go.Proofs.YtjphcdphlmaopaaGreat
