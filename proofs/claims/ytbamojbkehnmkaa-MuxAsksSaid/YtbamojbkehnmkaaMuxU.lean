/- Layer 26: MuxAsks: any channel of any, they with one changed, without those that are done, and behind a fault, are the document's; no condition. -/
import Derived.Test.YtbamojbkehnmkaaMuxT
import Derived.Test.YtbamojbkehnmkaaEngP
namespace Go.Proofs.Ytbamojbkehnmkaa
set_option linter.all false
set_option maxRecDepth 100000
open Go.RowKit

set_option maxHeartbeats 8000000 in
theorem asks_walk (A : Option Addr) (cap : Nat) (l : List CH) (lim : Int) (dead : Bool) (loc : Int) (c0 : CH) (w : World) (hr : RdX CH.cells w A l) (hl1 : l.length ≤ cap) (hl2 : cap ≤ maxLen) (hcs : ∀ c ∈ l, c.ok) (hlim : U32 lim) (hc0 : c0.ok) : Calls Try.prog 5 #[.agg #[.slice A l.length cap, .int .u32 lim, .bool dead], .int .u32 loc, c0.val] w fun e w' => e = .returned (.bool true) ∧ Only [] w w' := by
  refine Hs.enter Try.func5 [] [] [] [.g [.v (.slice A l.length cap), .v (.int .u32 lim), .v (.bool dead)], .c (.v (.int .u32 loc)), .g c0.sc] (Mem.start0 w) (by kernel_rfl) (by kernel_rfl) ?_
  refine Hs.run2 300 (fun _ => by kernel_rfl) fun b0 b1 => ?_
  refine Hs.callV (fun w' _ => alive26_any w') (by kernel_rfl) ?_
  refine Hs.run0 300 (fun _ => by kernel_rfl) ?_
  refine Hs.condF (by kernel_rfl) ?_
  refine Hs.run0 300 (fun _ => by kernel_rfl) ?_
  refine Hs.callX (X := Bool) (fun b => .bool b) (fun b => b = false → Small l.length []) (fun w' H => great26_any A l.length cap lim dead [] none 0 w' rdX_nil (by simp)) (by kernel_rfl) fun g hg => ?_
  refine Hs.run0 300 (fun _ => by kernel_rfl) ?_
  refine Hs.cond g (by kernel_rfl) (fun h1 => ?_) (fun h1 => ?_)
  · refine Hs.run0 300 (fun _ => by kernel_rfl) ?_
    exact Hs.ret (v := .bool true) Try.func5 (by kernel_rfl) fun w' H => ⟨rfl, H.only⟩
  have h40 := (hg h1).n
  have hf : Few l := by unfold Few; omega
  clear h1 hg
  refine Hs.run0 300 (fun _ => by kernel_rfl) ?_
  have KE : ∀ (A1 : Option Addr) (c1 : Nat) (g1 : l.length ≤ c1) (k1 : c1 ≤ maxLen) (A3 : Option Addr) (c3 : Nat) (g3 : l.length ≤ c3) (k3 : c3 ≤ maxLen) (A4 : Option Addr) (c4 : Nat) (g4 : l.length ≤ c4) (k4 : c4 ≤ maxLen) (b5 b6 : Nat) (u : Nat → Value), Hs Try.prog 5 (fun e w' => e = .returned (.bool true) ∧ Only [] w w') (Try.f5).ntmps w [] [b0, b1, 0, 0, 0, b5, b6] ⟨.no, afterR Try.f5 5, pins [(1, .c (.v (.int .u32 loc))), (3, .c (.p 0 0)), (5, .c (.p 1 0)), (7, .c (.p 5 0)), (8, .c (.p 6 0))] (.vals u), [.b true 25 [.v (.slice A l.length cap), .v (.int .u32 lim), .v (.bool dead)], .b true 53 (CH.sc c0), .s A1 c1 l.length 45 12 ((l).flatMap CH.cells), .s A3 c3 l.length 45 12 ((l).flatMap CH.cells), .s A4 c4 l.length 61 12 ((l).flatMap CH.cells), .b true 34 (MX.sc ⟨A1, c1, l, lim, dead⟩), .b true 56 (MX.sc ⟨A4, c4, l, lim, dead⟩)]⟩ := by
    intro A1 c1 g1 k1 A3 c3 g3 k3 A4 c4 g4 k4 b5 b6 u
    obtain ⟨⟨gc, gb⟩, hg⟩ : ∃ y, y = getL loc l := ⟨_, rfl⟩
    have G1 := fun w' hx => muxGet_any ⟨A1, c1, l, lim, dead⟩ loc w' hx
    have G2 := fun w' hx => rGet26_any ⟨A4, c4, l, lim, dead⟩ loc w' hx
    dsimp only at G1 G2
    rw [← hg] at G1 G2
    clear hg
    have hsl := setL_len c0 l
    have hset : ∀ c ∈ setL c0 l, c.ok := fun c hc => by
      unfold setL at hc
      split at hc
      · exact hcs c hc
      · rcases List.mem_or_eq_of_mem_set hc with hc | rfl
        · exact hcs c hc
        · exact hc0
    have hkeep : ∀ c ∈ keepL l, c.ok := fun c hc => hcs c (List.mem_filter.1 hc).1
    have hkl : (keepL l).length ≤ l.length := List.length_filter_le _ _
    have hlm : l.length ≤ maxLen := few_len hf
    refine Hs.run0 300 (fun _ => by kernel_rfl) ?_
    refine Hs.callV (fun w' H => G1 w' ⟨H.rdX 2 (A := A1) (cap := c1) (E := 45) (size := 12) rfl (by kernel_rfl), g1, k1, hcs, hlim⟩) (by kernel_rfl) ?_
    refine Hs.run1 300 (fun _ => by kernel_rfl) fun b7 => ?_
    refine Hs.callV (fun w' H => G2 w' ⟨H.rdX 4 (A := A4) (cap := c4) (E := 61) (size := 12) rfl (by kernel_rfl), g4, k4, hcs, hlim⟩) (by kernel_rfl) ?_
    refine Hs.run1 300 (fun _ => by kernel_rfl) fun b8 => ?_
    refine Hs.callF (fun y : (Option Addr × Nat) × (Option Addr × Nat × Nat) => .tuple #[MX.val ⟨y.1.1, y.1.2, l, lim, true⟩, .slice y.2.1 y.2.2.1 y.2.2.2]) (fun y w w' => FQ 45 ⟨A1, c1, l, lim, dead⟩ w w' y.1.1 y.1.2 y.2.1 y.2.2.1) (fun w' H => muxFault_any ⟨A1, c1, l, lim, dead⟩ w' ⟨H.rdX 2 (A := A1) (cap := c1) (E := 45) (size := 12) rfl (by kernel_rfl), g1, k1, hcs, hlim⟩ hf) (by kernel_rfl) (by kernel_rfl) fun y wa w1 L1 e1 Ha Oa Q1 B1 hL1 => ?_
    obtain ⟨⟨fA, fc⟩, ⟨oA, on, oc⟩⟩ := y
    obtain ⟨_, _, e0, f1, f2, rf, ff⟩ := Q1.chs.form
    injection e0 with e2 _ e3
    subst e2; subst e3
    have rf := RdO.new rf (fun a ha => (ff a ha).1) hL1
    obtain ⟨outs1, on1, op1, or1, of1, od1⟩ := Q1.out
    dsimp only at on1 op1 or1 of1 od1
    have or1 := RdO.new or1 of1 hL1
    have od1 := fun o ho => RdO.new (od1 o ho).1 (od1 o ho).2 hL1
    subst on1
    clear Q1 e1 ff of1
    refine Hs.run1 300 (fun _ => by kernel_rfl) fun b9 => ?_
    refine Hs.callF (fun y : (Option Addr × Nat) × (Option Addr × Nat × Nat) => .tuple #[MX.val ⟨y.1.1, y.1.2, l, lim, true⟩, .slice y.2.1 y.2.2.1 y.2.2.2]) (fun y w w' => FQ 61 ⟨A4, c4, l, lim, dead⟩ w w' y.1.1 y.1.2 y.2.1 y.2.2.1) (fun w' H => rFault26_any ⟨A4, c4, l, lim, dead⟩ w' ⟨H.rdX 4 (A := A4) (cap := c4) (E := 61) (size := 12) rfl (by kernel_rfl), g4, k4, hcs, hlim⟩ hf) (by kernel_rfl) (by kernel_rfl) fun y wb w2 L2 e1 Hb Ob Q2 B2 hL2 => ?_
    have rf := (RdO.stepL e1 rf Hb).only Ob
    have or1 := (RdO.stepL e1 or1 Hb).only Ob
    have od1 := fun o ho => (RdO.stepL e1 (od1 o ho) Hb).only Ob
    obtain ⟨⟨hA, hc⟩, ⟨pA, pn, pc⟩⟩ := y
    obtain ⟨_, _, e0, f3, f4, rh, fh⟩ := Q2.chs.form
    injection e0 with e2 _ e3
    subst e2; subst e3
    have rh := RdO.new rh (fun a ha => (fh a ha).1) hL2
    obtain ⟨outs2, on2, op2, or2, of2, od2⟩ := Q2.out
    dsimp only at on2 op2 or2 of2 od2
    have or2 := RdO.new or2 of2 hL2
    have od2 := fun o ho => RdO.new (od2 o ho).1 (od2 o ho).2 hL2
    subst on2
    clear Q2 e1 fh of2
    have BB := B1.trans B2
    have hpp : outs1.map MD.plain = outs2.map MD.plain := op1.trans op2.symm
    have hol : ∀ o ∈ outs1, o.data.length ≤ maxLen := fun o ho => by
      have h1 : o.plain ∈ outs1.map MD.plain := List.mem_map.2 ⟨o, ho, rfl⟩
      rw [op1] at h1
      unfold faultP at h1
      cases dead
      · obtain h1 := List.mem_singleton.1 h1
        have h2 := congrArg (fun p => p.data.length) h1
        have h3 : o.data.length = 14 := h2
        rw [h3]; decide
      · cases h1
    have hon : outs1.length ≤ maxLen := by
      have h1 : (outs1.map MD.plain).length ≤ 1 := by rw [op1]; unfold faultP; split <;> simp
      rw [List.length_map] at h1
      unfold maxLen; omega
    refine Hs.run1 300 (fun _ => by kernel_rfl) fun b10 => ?_
    refine Hs.any [1, 5, 6, 7, 8, 9, 10] (by kernel_rfl) ?_
    refine Hs.run0 300 (fun _ => by kernel_rfl) ?_
    refine Hs.callV (fun w' _ => from25_any gc w') (by kernel_rfl) ?_
    refine Hs.sel1 3 (by kernel_rfl) ?_
    refine Hs.same (op := .eql) (T := 61) (CH.cells gc).toArray true (by kernel_rfl) (.inl ⟨rfl, rfl⟩) (by kernel_rfl) ?_
    refine Hs.rung0 [4] 300 (fun _ => (by kernel_rfl)) ?_
    refine Hs.bool 57 (gb == gb) (by kernel_rfl) (fun _ => ?_) (fun h => by simp at h)
    refine Hs.rung0 [4, 9, 22, 30, 36, 41] 300 (fun _ => (by kernel_rfl)) ?_
    refine Hs.callV (fun w' _ => to25_any c0 w') (by kernel_rfl) ?_
    refine Hs.rung0 [4, 9, 22, 30, 36, 41] 300 (fun _ => (by kernel_rfl)) ?_
    refine Hs.callS (cf := CH.cells) (E := 45) (size := 12) (fun A cap => MX.val ⟨A, cap, setL c0 l, lim, dead⟩) (setL c0 l) (setL c0 l).length rfl (fun w' H => muxSet_any ⟨A1, c1, l, lim, dead⟩ c0 w' ⟨H.rdX 2 (A := A1) (cap := c1) (E := 45) (size := 12) rfl (by kernel_rfl), g1, k1, hcs, hlim⟩ hf) (by kernel_rfl) (by kernel_rfl) fun A13 c13 g13 k13 => ?_
    refine Hs.rung0 [4, 9, 22, 30, 36, 41] 300 (fun _ => (by kernel_rfl)) ?_
    refine Hs.callS (cf := CH.cells) (E := 61) (size := 12) (fun A cap => MX.val ⟨A, cap, setL c0 l, lim, dead⟩) (setL c0 l) (setL c0 l).length rfl (fun w' H => from26_any ⟨A13, c13, setL c0 l, lim, dead⟩ w' ⟨H.rdX 11 (A := A13) (cap := c13) (E := 45) (size := 12) rfl (by kernel_rfl), g13, k13, hset, hlim⟩ (by unfold Few; dsimp only; omega)) (by kernel_rfl) (by kernel_rfl) fun A14 c14 g14 k14 => ?_
    refine Hs.rung0 [4, 9, 22, 30, 36, 41] 300 (fun _ => (by kernel_rfl)) ?_
    refine Hs.callV (fun w' _ => to25_any c0 w') (by kernel_rfl) ?_
    refine Hs.rung0 [4, 9, 22, 30, 36, 41] 300 (fun _ => (by kernel_rfl)) ?_
    refine Hs.callV (fun w' _ => from25_any c0 w') (by kernel_rfl) ?_
    refine Hs.rung0 [4, 9, 22, 30, 36, 41] 300 (fun _ => (by kernel_rfl)) ?_
    refine Hs.callS (cf := CH.cells) (E := 61) (size := 12) (fun A cap => MX.val ⟨A, cap, setL c0 l, lim, dead⟩) (setL c0 l) (setL c0 l).length rfl (fun w' H => rSet26_any ⟨A4, c4, l, lim, dead⟩ c0 w' ⟨H.rdX 4 (A := A4) (cap := c4) (E := 61) (size := 12) rfl (by kernel_rfl), g4, k4, hcs, hlim⟩ hf) (by kernel_rfl) (by kernel_rfl) fun A19 c19 g19 k19 => ?_
    refine Hs.rung0 [4, 9, 22, 30, 36, 41] 300 (fun _ => (by kernel_rfl)) ?_
    refine Hs.callV (fun w' H => rSame26_true A14 A19 c14 c19 (setL c0 l) lim dead w' (H.rdX 12 (A := A14) (cap := c14) (E := 61) (size := 12) rfl (by kernel_rfl)) (H.rdX 13 (A := A19) (cap := c19) (E := 61) (size := 12) rfl (by kernel_rfl)) (by rw [hsl]; exact hlm)) (by kernel_rfl) ?_
    refine Hs.rung0 [4, 9, 22, 30, 36, 41] 300 (fun _ => (by kernel_rfl)) ?_
    refine Hs.callS (cf := CH.cells) (E := 45) (size := 12) (fun A cap => MX.val ⟨A, cap, keepL l, lim, dead⟩) (keepL l) (keepL l).length rfl (fun w' H => muxFree_any ⟨A1, c1, l, lim, dead⟩ w' ⟨H.rdX 2 (A := A1) (cap := c1) (E := 45) (size := 12) rfl (by kernel_rfl), g1, k1, hcs, hlim⟩ hf) (by kernel_rfl) (by kernel_rfl) fun A24 c24 g24 k24 => ?_
    refine Hs.rung0 [4, 9, 22, 30, 36, 41] 300 (fun _ => (by kernel_rfl)) ?_
    refine Hs.callS (cf := CH.cells) (E := 61) (size := 12) (fun A cap => MX.val ⟨A, cap, keepL l, lim, dead⟩) (keepL l) (keepL l).length rfl (fun w' H => from26_any ⟨A24, c24, keepL l, lim, dead⟩ w' ⟨H.rdX 14 (A := A24) (cap := c24) (E := 45) (size := 12) rfl (by kernel_rfl), g24, k24, hkeep, hlim⟩ (by unfold Few; dsimp only; omega)) (by kernel_rfl) (by kernel_rfl) fun A25 c25 g25 k25 => ?_
    refine Hs.rung0 [4, 9, 22, 30, 36, 41] 300 (fun _ => (by kernel_rfl)) ?_
    refine Hs.callS (cf := CH.cells) (E := 61) (size := 12) (fun A cap => MX.val ⟨A, cap, keepL l, lim, dead⟩) (keepL l) (keepL l).length rfl (fun w' H => rFree26_any ⟨A4, c4, l, lim, dead⟩ w' ⟨H.rdX 4 (A := A4) (cap := c4) (E := 61) (size := 12) rfl (by kernel_rfl), g4, k4, hcs, hlim⟩ hf) (by kernel_rfl) (by kernel_rfl) fun A27 c27 g27 k27 => ?_
    refine Hs.rung0 [4, 9, 22, 30, 36, 41] 300 (fun _ => (by kernel_rfl)) ?_
    refine Hs.callV (fun w' H => rSame26_true A25 A27 c25 c27 (keepL l) lim dead w' (H.rdX 15 (A := A25) (cap := c25) (E := 61) (size := 12) rfl (by kernel_rfl)) (H.rdX 16 (A := A27) (cap := c27) (E := 61) (size := 12) rfl (by kernel_rfl)) (by omega)) (by kernel_rfl) ?_
    refine Hs.rung0 [4, 9, 22, 30, 36, 41] 300 (fun _ => (by kernel_rfl)) ?_
    refine Hs.callS (cf := CH.cells) (E := 61) (size := 12) (fun A cap => MX.val ⟨A, cap, l, lim, true⟩) (l) (l).length rfl (fun w' H => from26_any ⟨fA, fc, l, lim, true⟩ w' ⟨rf.now H, f1, f2, hcs, hlim⟩ hf) (by kernel_rfl) (by kernel_rfl) fun A32 c32 g32 k32 => ?_
    refine Hs.rung0 [4, 9, 22, 30, 36, 41] 300 (fun _ => (by kernel_rfl)) ?_
    refine Hs.callV (fun w' H => rSame26_true A32 hA c32 hc l lim true w' (H.rdX 17 (A := A32) (cap := c32) (E := 61) (size := 12) rfl (by kernel_rfl)) (rh.now H) hlm) (by kernel_rfl) ?_
    refine Hs.rung0 [4, 9, 22, 30, 36, 41] 300 (fun _ => (by kernel_rfl)) ?_
    refine Hs.callV (fun w' H => msgs26_true oA pA oc pc outs1 outs2 w' (or1.now H) (or2.now H) hpp (fun o ho => (od1 o ho).now H) (fun o ho => (od2 o ho).now H) hol hon) (by kernel_rfl) ?_
    refine Hs.rung0 [4, 9, 22, 30, 36, 41] 300 (fun _ => (by kernel_rfl)) ?_
    refine Hs.callS (cf := CH.cells) (E := 61) (size := 12) (fun A cap => MX.val ⟨A, cap, l, lim, dead⟩) (l) (l).length rfl (fun w' H => from26_any ⟨A1, c1, l, lim, dead⟩ w' ⟨H.rdX 2 (A := A1) (cap := c1) (E := 45) (size := 12) rfl (by kernel_rfl), g1, k1, hcs, hlim⟩ hf) (by kernel_rfl) (by kernel_rfl) fun A43 c43 g43 k43 => ?_
    refine Hs.rung0 [4, 9, 22, 30, 36, 41] 300 (fun _ => (by kernel_rfl)) ?_
    refine Hs.callV (fun w' H => rSame26_true A43 A4 c43 c4 l lim dead w' (H.rdX 18 (A := A43) (cap := c43) (E := 61) (size := 12) rfl (by kernel_rfl)) (H.rdX 4 (A := A4) (cap := c4) (E := 61) (size := 12) rfl (by kernel_rfl)) hlm) (by kernel_rfl) ?_
    refine Hs.rung0 [4, 9, 22, 30, 36, 41] 300 (fun _ => (by kernel_rfl)) ?_
    exact Hs.ret (v := .bool true) Try.func5 (by kernel_rfl) fun w' H => ⟨rfl, BB w' H.only⟩
  have K5_1_3_4 : ∀ (A1 : Option Addr) (c1 : Nat) (g1 : l.length ≤ c1) (k1 : c1 ≤ maxLen) (A3 : Option Addr) (c3 : Nat) (g3 : l.length ≤ c3) (k3 : c3 ≤ maxLen) (A4 : Option Addr) (c4 : Nat) (g4 : l.length ≤ c4) (k4 : c4 ≤ maxLen) (u : Nat → Value), Hs Try.prog 5 (fun e w' => e = .returned (.bool true) ∧ Only [] w w') (Try.f5).ntmps w [] [b0, b1, 0, 0, 0, 0, 0] ⟨.any (opsOf Try.f5 5) 4 31 [0], afterR Try.f5 5, pins [(1, .c (.v (.int .u32 loc))), (3, .c (.p 0 0)), (5, .c (.p 1 0)), (21, .g [.v (.slice A l.length cap), .v (.int .u32 lim), .v (.bool dead)]), (23, .g [.v (.slice A l.length cap), .v (.int .u32 lim), .v (.bool dead)]), (22, .c (.v (MX.val ⟨A1, c1, l, lim, dead⟩))), (24, .c (.v (MX.val ⟨A3, c3, l, lim, dead⟩))), (25, .c (.v (MX.val ⟨A4, c4, l, lim, dead⟩)))] (.vals u), [.b true 25 [.v (.slice A l.length cap), .v (.int .u32 lim), .v (.bool dead)], .b true 53 (CH.sc c0), .s A1 c1 l.length 45 12 ((l).flatMap CH.cells), .s A3 c3 l.length 45 12 ((l).flatMap CH.cells), .s A4 c4 l.length 61 12 ((l).flatMap CH.cells), .no, .no]⟩ := by
    intro A1 c1 g1 k1 A3 c3 g3 k3 A4 c4 g4 k4 u
    refine Hs.branch2 5 6 (by kernel_rfl) ?_ ?_
    · refine Hs.runU2 (afterR Try.f5 5).length [] 300 (fun _ => by kernel_rfl) fun b5 b6 => ?_
      exact Hs.goto (afterR Try.f5 5) [0, 1, 2, 3, 4, 7, 8] [.b true 25 [.v (.slice A l.length cap), .v (.int .u32 lim), .v (.bool dead)], .b true 53 (CH.sc c0), .s A1 c1 l.length 45 12 ((l).flatMap CH.cells), .s A3 c3 l.length 45 12 ((l).flatMap CH.cells), .s A4 c4 l.length 61 12 ((l).flatMap CH.cells), .b true 34 (MX.sc ⟨A1, c1, l, lim, dead⟩), .b true 56 (MX.sc ⟨A4, c4, l, lim, dead⟩)] [(1, .c (.v (.int .u32 loc))), (3, .c (.p 0 0)), (5, .c (.p 1 0)), (7, .c (.p 5 0)), (8, .c (.p 6 0))] (by kernel_rfl) (by decide) (by kernel_rfl) (by kernel_rfl) (fun _ => (by kernel_rfl)) (fun u => KE A1 c1 g1 k1 A3 c3 g3 k3 A4 c4 g4 k4 b5 b6 u)
    · refine Hs.runU2 (afterR Try.f5 5).length [] 300 (fun _ => by kernel_rfl) fun b6 b5 => ?_
      exact Hs.goto (afterR Try.f5 5) [0, 1, 2, 3, 4, 8, 7] [.b true 25 [.v (.slice A l.length cap), .v (.int .u32 lim), .v (.bool dead)], .b true 53 (CH.sc c0), .s A1 c1 l.length 45 12 ((l).flatMap CH.cells), .s A3 c3 l.length 45 12 ((l).flatMap CH.cells), .s A4 c4 l.length 61 12 ((l).flatMap CH.cells), .b true 34 (MX.sc ⟨A1, c1, l, lim, dead⟩), .b true 56 (MX.sc ⟨A4, c4, l, lim, dead⟩)] [(1, .c (.v (.int .u32 loc))), (3, .c (.p 0 0)), (5, .c (.p 1 0)), (7, .c (.p 5 0)), (8, .c (.p 6 0))] (by kernel_rfl) (by decide) (by kernel_rfl) (by kernel_rfl) (fun _ => (by kernel_rfl)) (fun u => KE A1 c1 g1 k1 A3 c3 g3 k3 A4 c4 g4 k4 b5 b6 u)
  have K5_1_3_5 : ∀ (A1 : Option Addr) (c1 : Nat) (g1 : l.length ≤ c1) (k1 : c1 ≤ maxLen) (A3 : Option Addr) (c3 : Nat) (g3 : l.length ≤ c3) (k3 : c3 ≤ maxLen) (b5 : Nat) (u : Nat → Value), Hs Try.prog 5 (fun e w' => e = .returned (.bool true) ∧ Only [] w w') (Try.f5).ntmps w [] [b0, b1, 0, 0, 0, b5, 0] ⟨.any (opsOf Try.f5 5) 4 47 [0], afterR Try.f5 5, pins [(1, .c (.v (.int .u32 loc))), (3, .c (.p 0 0)), (5, .c (.p 1 0)), (21, .g [.v (.slice A l.length cap), .v (.int .u32 lim), .v (.bool dead)]), (23, .g [.v (.slice A l.length cap), .v (.int .u32 lim), .v (.bool dead)]), (22, .c (.v (MX.val ⟨A1, c1, l, lim, dead⟩))), (24, .c (.v (MX.val ⟨A3, c3, l, lim, dead⟩))), (7, .c (.p 5 0))] (.vals u), [.b true 25 [.v (.slice A l.length cap), .v (.int .u32 lim), .v (.bool dead)], .b true 53 (CH.sc c0), .s A1 c1 l.length 45 12 ((l).flatMap CH.cells), .s A3 c3 l.length 45 12 ((l).flatMap CH.cells), .no, .b true 34 [.v (.slice none 0 0), .v (.int .u32 0), .v (.bool false)], .no]⟩ := by
    intro A1 c1 g1 k1 A3 c3 g3 k3 b5 u
    refine Hs.branch2 4 6 (by kernel_rfl) ?_ ?_
    · refine Hs.callS (cf := CH.cells) (E := 61) (size := 12) (fun A cap => MX.val ⟨A, cap, l, lim, dead⟩) (l) (l.length) rfl (fun w' H => from26_any ⟨A3, c3, l, lim, dead⟩ w' ⟨H.rdX 3 (A := A3) (cap := c3) (E := 45) (size := 12) rfl (by kernel_rfl), g3, k3, hcs, hlim⟩ hf) (by kernel_rfl) (by kernel_rfl) fun A4 c4 g4 k4 => ?_
      refine Hs.runU1 (afterR Try.f5 5).length [] 300 (fun _ => by kernel_rfl) fun b6 => ?_
      exact Hs.goto (afterR Try.f5 5) [0, 1, 2, 3, 7, 5, 8] [.b true 25 [.v (.slice A l.length cap), .v (.int .u32 lim), .v (.bool dead)], .b true 53 (CH.sc c0), .s A1 c1 l.length 45 12 ((l).flatMap CH.cells), .s A3 c3 l.length 45 12 ((l).flatMap CH.cells), .s A4 c4 l.length 61 12 ((l).flatMap CH.cells), .b true 34 (MX.sc ⟨A1, c1, l, lim, dead⟩), .b true 56 (MX.sc ⟨A4, c4, l, lim, dead⟩)] [(1, .c (.v (.int .u32 loc))), (3, .c (.p 0 0)), (5, .c (.p 1 0)), (7, .c (.p 5 0)), (8, .c (.p 6 0))] (by kernel_rfl) (by decide) (by kernel_rfl) (by kernel_rfl) (fun _ => (by kernel_rfl)) (fun u => KE A1 c1 g1 k1 A3 c3 g3 k3 A4 c4 g4 k4 b5 b6 u)
    · refine Hs.run1 300 (fun _ => by kernel_rfl) fun b6 => ?_
      refine Hs.callS (cf := CH.cells) (E := 61) (size := 12) (fun A cap => MX.val ⟨A, cap, l, lim, dead⟩) (l) (l.length) rfl (fun w' H => from26_any ⟨A3, c3, l, lim, dead⟩ w' ⟨H.rdX 3 (A := A3) (cap := c3) (E := 45) (size := 12) rfl (by kernel_rfl), g3, k3, hcs, hlim⟩ hf) (by kernel_rfl) (by kernel_rfl) fun A4 c4 g4 k4 => ?_
      refine Hs.runU0 (afterR Try.f5 5).length [] 300 (fun _ => by kernel_rfl) ?_
      exact Hs.goto (afterR Try.f5 5) [0, 1, 2, 3, 8, 5, 7] [.b true 25 [.v (.slice A l.length cap), .v (.int .u32 lim), .v (.bool dead)], .b true 53 (CH.sc c0), .s A1 c1 l.length 45 12 ((l).flatMap CH.cells), .s A3 c3 l.length 45 12 ((l).flatMap CH.cells), .s A4 c4 l.length 61 12 ((l).flatMap CH.cells), .b true 34 (MX.sc ⟨A1, c1, l, lim, dead⟩), .b true 56 (MX.sc ⟨A4, c4, l, lim, dead⟩)] [(1, .c (.v (.int .u32 loc))), (3, .c (.p 0 0)), (5, .c (.p 1 0)), (7, .c (.p 5 0)), (8, .c (.p 6 0))] (by kernel_rfl) (by decide) (by kernel_rfl) (by kernel_rfl) (fun _ => (by kernel_rfl)) (fun u => KE A1 c1 g1 k1 A3 c3 g3 k3 A4 c4 g4 k4 b5 b6 u)
  have K5_1_3_6 : ∀ (A1 : Option Addr) (c1 : Nat) (g1 : l.length ≤ c1) (k1 : c1 ≤ maxLen) (A3 : Option Addr) (c3 : Nat) (g3 : l.length ≤ c3) (k3 : c3 ≤ maxLen) (b6 : Nat) (u : Nat → Value), Hs Try.prog 5 (fun e w' => e = .returned (.bool true) ∧ Only [] w w') (Try.f5).ntmps w [] [b0, b1, 0, 0, 0, 0, b6] ⟨.any (opsOf Try.f5 5) 4 79 [0], afterR Try.f5 5, pins [(1, .c (.v (.int .u32 loc))), (3, .c (.p 0 0)), (5, .c (.p 1 0)), (21, .g [.v (.slice A l.length cap), .v (.int .u32 lim), .v (.bool dead)]), (23, .g [.v (.slice A l.length cap), .v (.int .u32 lim), .v (.bool dead)]), (22, .c (.v (MX.val ⟨A1, c1, l, lim, dead⟩))), (24, .c (.v (MX.val ⟨A3, c3, l, lim, dead⟩))), (8, .c (.p 6 0))] (.vals u), [.b true 25 [.v (.slice A l.length cap), .v (.int .u32 lim), .v (.bool dead)], .b true 53 (CH.sc c0), .s A1 c1 l.length 45 12 ((l).flatMap CH.cells), .s A3 c3 l.length 45 12 ((l).flatMap CH.cells), .no, .no, .b true 56 [.v (.slice none 0 0), .v (.int .u32 0), .v (.bool false)]]⟩ := by
    intro A1 c1 g1 k1 A3 c3 g3 k3 b6 u
    refine Hs.branch2 4 5 (by kernel_rfl) ?_ ?_
    · refine Hs.callS (cf := CH.cells) (E := 61) (size := 12) (fun A cap => MX.val ⟨A, cap, l, lim, dead⟩) (l) (l.length) rfl (fun w' H => from26_any ⟨A3, c3, l, lim, dead⟩ w' ⟨H.rdX 3 (A := A3) (cap := c3) (E := 45) (size := 12) rfl (by kernel_rfl), g3, k3, hcs, hlim⟩ hf) (by kernel_rfl) (by kernel_rfl) fun A4 c4 g4 k4 => ?_
      refine Hs.runU1 (afterR Try.f5 5).length [] 300 (fun _ => by kernel_rfl) fun b5 => ?_
      exact Hs.goto (afterR Try.f5 5) [0, 1, 2, 3, 7, 8, 6] [.b true 25 [.v (.slice A l.length cap), .v (.int .u32 lim), .v (.bool dead)], .b true 53 (CH.sc c0), .s A1 c1 l.length 45 12 ((l).flatMap CH.cells), .s A3 c3 l.length 45 12 ((l).flatMap CH.cells), .s A4 c4 l.length 61 12 ((l).flatMap CH.cells), .b true 34 (MX.sc ⟨A1, c1, l, lim, dead⟩), .b true 56 (MX.sc ⟨A4, c4, l, lim, dead⟩)] [(1, .c (.v (.int .u32 loc))), (3, .c (.p 0 0)), (5, .c (.p 1 0)), (7, .c (.p 5 0)), (8, .c (.p 6 0))] (by kernel_rfl) (by decide) (by kernel_rfl) (by kernel_rfl) (fun _ => (by kernel_rfl)) (fun u => KE A1 c1 g1 k1 A3 c3 g3 k3 A4 c4 g4 k4 b5 b6 u)
    · refine Hs.run1 300 (fun _ => by kernel_rfl) fun b5 => ?_
      refine Hs.callS (cf := CH.cells) (E := 61) (size := 12) (fun A cap => MX.val ⟨A, cap, l, lim, dead⟩) (l) (l.length) rfl (fun w' H => from26_any ⟨A3, c3, l, lim, dead⟩ w' ⟨H.rdX 3 (A := A3) (cap := c3) (E := 45) (size := 12) rfl (by kernel_rfl), g3, k3, hcs, hlim⟩ hf) (by kernel_rfl) (by kernel_rfl) fun A4 c4 g4 k4 => ?_
      refine Hs.runU0 (afterR Try.f5 5).length [] 300 (fun _ => by kernel_rfl) ?_
      exact Hs.goto (afterR Try.f5 5) [0, 1, 2, 3, 8, 7, 6] [.b true 25 [.v (.slice A l.length cap), .v (.int .u32 lim), .v (.bool dead)], .b true 53 (CH.sc c0), .s A1 c1 l.length 45 12 ((l).flatMap CH.cells), .s A3 c3 l.length 45 12 ((l).flatMap CH.cells), .s A4 c4 l.length 61 12 ((l).flatMap CH.cells), .b true 34 (MX.sc ⟨A1, c1, l, lim, dead⟩), .b true 56 (MX.sc ⟨A4, c4, l, lim, dead⟩)] [(1, .c (.v (.int .u32 loc))), (3, .c (.p 0 0)), (5, .c (.p 1 0)), (7, .c (.p 5 0)), (8, .c (.p 6 0))] (by kernel_rfl) (by decide) (by kernel_rfl) (by kernel_rfl) (fun _ => (by kernel_rfl)) (fun u => KE A1 c1 g1 k1 A3 c3 g3 k3 A4 c4 g4 k4 b5 b6 u)
  have K5_1_3 : ∀ (A1 : Option Addr) (c1 : Nat) (g1 : l.length ≤ c1) (k1 : c1 ≤ maxLen) (A3 : Option Addr) (c3 : Nat) (g3 : l.length ≤ c3) (k3 : c3 ≤ maxLen) (u : Nat → Value), Hs Try.prog 5 (fun e w' => e = .returned (.bool true) ∧ Only [] w w') (Try.f5).ntmps w [] [b0, b1, 0, 0, 0, 0, 0] ⟨.any (opsOf Try.f5 5) 5 15 [0], afterR Try.f5 5, pins [(1, .c (.v (.int .u32 loc))), (3, .c (.p 0 0)), (5, .c (.p 1 0)), (21, .g [.v (.slice A l.length cap), .v (.int .u32 lim), .v (.bool dead)]), (23, .g [.v (.slice A l.length cap), .v (.int .u32 lim), .v (.bool dead)]), (22, .c (.v (MX.val ⟨A1, c1, l, lim, dead⟩))), (24, .c (.v (MX.val ⟨A3, c3, l, lim, dead⟩)))] (.vals u), [.b true 25 [.v (.slice A l.length cap), .v (.int .u32 lim), .v (.bool dead)], .b true 53 (CH.sc c0), .s A1 c1 l.length 45 12 ((l).flatMap CH.cells), .s A3 c3 l.length 45 12 ((l).flatMap CH.cells), .no, .no, .no]⟩ := by
    intro A1 c1 g1 k1 A3 c3 g3 k3 u
    refine Hs.branch3 4 5 6 (by kernel_rfl) ?_ ?_ ?_
    · refine Hs.callS (cf := CH.cells) (E := 61) (size := 12) (fun A cap => MX.val ⟨A, cap, l, lim, dead⟩) (l) (l.length) rfl (fun w' H => from26_any ⟨A3, c3, l, lim, dead⟩ w' ⟨H.rdX 3 (A := A3) (cap := c3) (E := 45) (size := 12) rfl (by kernel_rfl), g3, k3, hcs, hlim⟩ hf) (by kernel_rfl) (by kernel_rfl) fun A4 c4 g4 k4 => ?_
      refine Hs.run0 300 (fun _ => by kernel_rfl) ?_
      exact Hs.gotoA (afterR Try.f5 5) [0, 1, 2, 3, 7, 1005, 1006] [.b true 25 [.v (.slice A l.length cap), .v (.int .u32 lim), .v (.bool dead)], .b true 53 (CH.sc c0), .s A1 c1 l.length 45 12 ((l).flatMap CH.cells), .s A3 c3 l.length 45 12 ((l).flatMap CH.cells), .s A4 c4 l.length 61 12 ((l).flatMap CH.cells), .no, .no] [(1, .c (.v (.int .u32 loc))), (3, .c (.p 0 0)), (5, .c (.p 1 0)), (21, .g [.v (.slice A l.length cap), .v (.int .u32 lim), .v (.bool dead)]), (23, .g [.v (.slice A l.length cap), .v (.int .u32 lim), .v (.bool dead)]), (22, .c (.v (MX.val ⟨A1, c1, l, lim, dead⟩))), (24, .c (.v (MX.val ⟨A3, c3, l, lim, dead⟩))), (25, .c (.v (MX.val ⟨A4, c4, l, lim, dead⟩)))] (by kernel_rfl) (by decide) (by kernel_rfl) (by kernel_rfl) (fun _ => (by kernel_rfl)) (by kernel_rfl) (fun u => K5_1_3_4 A1 c1 g1 k1 A3 c3 g3 k3 A4 c4 g4 k4 u)
    · refine Hs.run1 300 (fun _ => by kernel_rfl) fun b5 => ?_
      exact Hs.gotoA (afterR Try.f5 5) [0, 1, 2, 3, 1004, 7, 1006] [.b true 25 [.v (.slice A l.length cap), .v (.int .u32 lim), .v (.bool dead)], .b true 53 (CH.sc c0), .s A1 c1 l.length 45 12 ((l).flatMap CH.cells), .s A3 c3 l.length 45 12 ((l).flatMap CH.cells), .no, .b true 34 [.v (.slice none 0 0), .v (.int .u32 0), .v (.bool false)], .no] [(1, .c (.v (.int .u32 loc))), (3, .c (.p 0 0)), (5, .c (.p 1 0)), (21, .g [.v (.slice A l.length cap), .v (.int .u32 lim), .v (.bool dead)]), (23, .g [.v (.slice A l.length cap), .v (.int .u32 lim), .v (.bool dead)]), (22, .c (.v (MX.val ⟨A1, c1, l, lim, dead⟩))), (24, .c (.v (MX.val ⟨A3, c3, l, lim, dead⟩))), (7, .c (.p 5 0))] (by kernel_rfl) (by decide) (by kernel_rfl) (by kernel_rfl) (fun _ => (by kernel_rfl)) (by kernel_rfl) (fun u => K5_1_3_5 A1 c1 g1 k1 A3 c3 g3 k3 b5 u)
    · refine Hs.run1 300 (fun _ => by kernel_rfl) fun b6 => ?_
      exact Hs.gotoA (afterR Try.f5 5) [0, 1, 2, 3, 1004, 1005, 7] [.b true 25 [.v (.slice A l.length cap), .v (.int .u32 lim), .v (.bool dead)], .b true 53 (CH.sc c0), .s A1 c1 l.length 45 12 ((l).flatMap CH.cells), .s A3 c3 l.length 45 12 ((l).flatMap CH.cells), .no, .no, .b true 56 [.v (.slice none 0 0), .v (.int .u32 0), .v (.bool false)]] [(1, .c (.v (.int .u32 loc))), (3, .c (.p 0 0)), (5, .c (.p 1 0)), (21, .g [.v (.slice A l.length cap), .v (.int .u32 lim), .v (.bool dead)]), (23, .g [.v (.slice A l.length cap), .v (.int .u32 lim), .v (.bool dead)]), (22, .c (.v (MX.val ⟨A1, c1, l, lim, dead⟩))), (24, .c (.v (MX.val ⟨A3, c3, l, lim, dead⟩))), (8, .c (.p 6 0))] (by kernel_rfl) (by decide) (by kernel_rfl) (by kernel_rfl) (fun _ => (by kernel_rfl)) (by kernel_rfl) (fun u => K5_1_3_6 A1 c1 g1 k1 A3 c3 g3 k3 b6 u)
  have K5_1_5 : ∀ (A1 : Option Addr) (c1 : Nat) (g1 : l.length ≤ c1) (k1 : c1 ≤ maxLen) (b5 : Nat) (u : Nat → Value), Hs Try.prog 5 (fun e w' => e = .returned (.bool true) ∧ Only [] w w') (Try.f5).ntmps w [] [b0, b1, 0, 0, 0, b5, 0] ⟨.any (opsOf Try.f5 5) 5 39 [0], afterR Try.f5 5, pins [(1, .c (.v (.int .u32 loc))), (3, .c (.p 0 0)), (5, .c (.p 1 0)), (21, .g [.v (.slice A l.length cap), .v (.int .u32 lim), .v (.bool dead)]), (23, .g [.v (.slice A l.length cap), .v (.int .u32 lim), .v (.bool dead)]), (22, .c (.v (MX.val ⟨A1, c1, l, lim, dead⟩))), (7, .c (.p 5 0))] (.vals u), [.b true 25 [.v (.slice A l.length cap), .v (.int .u32 lim), .v (.bool dead)], .b true 53 (CH.sc c0), .s A1 c1 l.length 45 12 ((l).flatMap CH.cells), .no, .no, .b true 34 [.v (.slice none 0 0), .v (.int .u32 0), .v (.bool false)], .no]⟩ := by
    intro A1 c1 g1 k1 b5 u
    refine Hs.branch2 3 6 (by kernel_rfl) ?_ ?_
    · refine Hs.callS (cf := CH.cells) (E := 45) (size := 12) (fun A cap => MX.val ⟨A, cap, l, lim, dead⟩) (l) (l.length) rfl (fun w' H => to26_any A cap _ l lim dead w' rfl (hr.only H.only) hf) (by kernel_rfl) (by kernel_rfl) fun A3 c3 g3 k3 => ?_
      refine Hs.run0 300 (fun _ => by kernel_rfl) ?_
      exact Hs.gotoA (afterR Try.f5 5) [0, 1, 2, 7, 1004, 5, 1006] [.b true 25 [.v (.slice A l.length cap), .v (.int .u32 lim), .v (.bool dead)], .b true 53 (CH.sc c0), .s A1 c1 l.length 45 12 ((l).flatMap CH.cells), .s A3 c3 l.length 45 12 ((l).flatMap CH.cells), .no, .b true 34 [.v (.slice none 0 0), .v (.int .u32 0), .v (.bool false)], .no] [(1, .c (.v (.int .u32 loc))), (3, .c (.p 0 0)), (5, .c (.p 1 0)), (21, .g [.v (.slice A l.length cap), .v (.int .u32 lim), .v (.bool dead)]), (23, .g [.v (.slice A l.length cap), .v (.int .u32 lim), .v (.bool dead)]), (22, .c (.v (MX.val ⟨A1, c1, l, lim, dead⟩))), (24, .c (.v (MX.val ⟨A3, c3, l, lim, dead⟩))), (7, .c (.p 5 0))] (by kernel_rfl) (by decide) (by kernel_rfl) (by kernel_rfl) (fun _ => (by kernel_rfl)) (by kernel_rfl) (fun u => K5_1_3_5 A1 c1 g1 k1 A3 c3 g3 k3 b5 u)
    · refine Hs.run1 300 (fun _ => by kernel_rfl) fun b6 => ?_
      refine Hs.callS (cf := CH.cells) (E := 45) (size := 12) (fun A cap => MX.val ⟨A, cap, l, lim, dead⟩) (l) (l.length) rfl (fun w' H => to26_any A cap _ l lim dead w' rfl (hr.only H.only) hf) (by kernel_rfl) (by kernel_rfl) fun A3 c3 g3 k3 => ?_
      refine Hs.run0 300 (fun _ => by kernel_rfl) ?_
      refine Hs.callS (cf := CH.cells) (E := 61) (size := 12) (fun A cap => MX.val ⟨A, cap, l, lim, dead⟩) (l) (l.length) rfl (fun w' H => from26_any ⟨A3, c3, l, lim, dead⟩ w' ⟨H.rdX 8 (A := A3) (cap := c3) (E := 45) (size := 12) rfl (by kernel_rfl), g3, k3, hcs, hlim⟩ hf) (by kernel_rfl) (by kernel_rfl) fun A4 c4 g4 k4 => ?_
      refine Hs.runU0 (afterR Try.f5 5).length [] 300 (fun _ => by kernel_rfl) ?_
      exact Hs.goto (afterR Try.f5 5) [0, 1, 2, 8, 9, 5, 7] [.b true 25 [.v (.slice A l.length cap), .v (.int .u32 lim), .v (.bool dead)], .b true 53 (CH.sc c0), .s A1 c1 l.length 45 12 ((l).flatMap CH.cells), .s A3 c3 l.length 45 12 ((l).flatMap CH.cells), .s A4 c4 l.length 61 12 ((l).flatMap CH.cells), .b true 34 (MX.sc ⟨A1, c1, l, lim, dead⟩), .b true 56 (MX.sc ⟨A4, c4, l, lim, dead⟩)] [(1, .c (.v (.int .u32 loc))), (3, .c (.p 0 0)), (5, .c (.p 1 0)), (7, .c (.p 5 0)), (8, .c (.p 6 0))] (by kernel_rfl) (by decide) (by kernel_rfl) (by kernel_rfl) (fun _ => (by kernel_rfl)) (fun u => KE A1 c1 g1 k1 A3 c3 g3 k3 A4 c4 g4 k4 b5 b6 u)
  have K5_1_6 : ∀ (A1 : Option Addr) (c1 : Nat) (g1 : l.length ≤ c1) (k1 : c1 ≤ maxLen) (b6 : Nat) (u : Nat → Value), Hs Try.prog 5 (fun e w' => e = .returned (.bool true) ∧ Only [] w w') (Try.f5).ntmps w [] [b0, b1, 0, 0, 0, 0, b6] ⟨.any (opsOf Try.f5 5) 5 71 [0], afterR Try.f5 5, pins [(1, .c (.v (.int .u32 loc))), (3, .c (.p 0 0)), (5, .c (.p 1 0)), (21, .g [.v (.slice A l.length cap), .v (.int .u32 lim), .v (.bool dead)]), (23, .g [.v (.slice A l.length cap), .v (.int .u32 lim), .v (.bool dead)]), (22, .c (.v (MX.val ⟨A1, c1, l, lim, dead⟩))), (8, .c (.p 6 0))] (.vals u), [.b true 25 [.v (.slice A l.length cap), .v (.int .u32 lim), .v (.bool dead)], .b true 53 (CH.sc c0), .s A1 c1 l.length 45 12 ((l).flatMap CH.cells), .no, .no, .no, .b true 56 [.v (.slice none 0 0), .v (.int .u32 0), .v (.bool false)]]⟩ := by
    intro A1 c1 g1 k1 b6 u
    refine Hs.branch2 3 5 (by kernel_rfl) ?_ ?_
    · refine Hs.callS (cf := CH.cells) (E := 45) (size := 12) (fun A cap => MX.val ⟨A, cap, l, lim, dead⟩) (l) (l.length) rfl (fun w' H => to26_any A cap _ l lim dead w' rfl (hr.only H.only) hf) (by kernel_rfl) (by kernel_rfl) fun A3 c3 g3 k3 => ?_
      refine Hs.run0 300 (fun _ => by kernel_rfl) ?_
      exact Hs.gotoA (afterR Try.f5 5) [0, 1, 2, 7, 1004, 1005, 6] [.b true 25 [.v (.slice A l.length cap), .v (.int .u32 lim), .v (.bool dead)], .b true 53 (CH.sc c0), .s A1 c1 l.length 45 12 ((l).flatMap CH.cells), .s A3 c3 l.length 45 12 ((l).flatMap CH.cells), .no, .no, .b true 56 [.v (.slice none 0 0), .v (.int .u32 0), .v (.bool false)]] [(1, .c (.v (.int .u32 loc))), (3, .c (.p 0 0)), (5, .c (.p 1 0)), (21, .g [.v (.slice A l.length cap), .v (.int .u32 lim), .v (.bool dead)]), (23, .g [.v (.slice A l.length cap), .v (.int .u32 lim), .v (.bool dead)]), (22, .c (.v (MX.val ⟨A1, c1, l, lim, dead⟩))), (24, .c (.v (MX.val ⟨A3, c3, l, lim, dead⟩))), (8, .c (.p 6 0))] (by kernel_rfl) (by decide) (by kernel_rfl) (by kernel_rfl) (fun _ => (by kernel_rfl)) (by kernel_rfl) (fun u => K5_1_3_6 A1 c1 g1 k1 A3 c3 g3 k3 b6 u)
    · refine Hs.run1 300 (fun _ => by kernel_rfl) fun b5 => ?_
      refine Hs.callS (cf := CH.cells) (E := 45) (size := 12) (fun A cap => MX.val ⟨A, cap, l, lim, dead⟩) (l) (l.length) rfl (fun w' H => to26_any A cap _ l lim dead w' rfl (hr.only H.only) hf) (by kernel_rfl) (by kernel_rfl) fun A3 c3 g3 k3 => ?_
      refine Hs.run0 300 (fun _ => by kernel_rfl) ?_
      refine Hs.callS (cf := CH.cells) (E := 61) (size := 12) (fun A cap => MX.val ⟨A, cap, l, lim, dead⟩) (l) (l.length) rfl (fun w' H => from26_any ⟨A3, c3, l, lim, dead⟩ w' ⟨H.rdX 8 (A := A3) (cap := c3) (E := 45) (size := 12) rfl (by kernel_rfl), g3, k3, hcs, hlim⟩ hf) (by kernel_rfl) (by kernel_rfl) fun A4 c4 g4 k4 => ?_
      refine Hs.runU0 (afterR Try.f5 5).length [] 300 (fun _ => by kernel_rfl) ?_
      exact Hs.goto (afterR Try.f5 5) [0, 1, 2, 8, 9, 7, 6] [.b true 25 [.v (.slice A l.length cap), .v (.int .u32 lim), .v (.bool dead)], .b true 53 (CH.sc c0), .s A1 c1 l.length 45 12 ((l).flatMap CH.cells), .s A3 c3 l.length 45 12 ((l).flatMap CH.cells), .s A4 c4 l.length 61 12 ((l).flatMap CH.cells), .b true 34 (MX.sc ⟨A1, c1, l, lim, dead⟩), .b true 56 (MX.sc ⟨A4, c4, l, lim, dead⟩)] [(1, .c (.v (.int .u32 loc))), (3, .c (.p 0 0)), (5, .c (.p 1 0)), (7, .c (.p 5 0)), (8, .c (.p 6 0))] (by kernel_rfl) (by decide) (by kernel_rfl) (by kernel_rfl) (fun _ => (by kernel_rfl)) (fun u => KE A1 c1 g1 k1 A3 c3 g3 k3 A4 c4 g4 k4 b5 b6 u)
  have K5_1 : ∀ (A1 : Option Addr) (c1 : Nat) (g1 : l.length ≤ c1) (k1 : c1 ≤ maxLen) (u : Nat → Value), Hs Try.prog 5 (fun e w' => e = .returned (.bool true) ∧ Only [] w w') (Try.f5).ntmps w [] [b0, b1, 0, 0, 0, 0, 0] ⟨.any (opsOf Try.f5 5) 6 7 [0], afterR Try.f5 5, pins [(1, .c (.v (.int .u32 loc))), (3, .c (.p 0 0)), (5, .c (.p 1 0)), (21, .g [.v (.slice A l.length cap), .v (.int .u32 lim), .v (.bool dead)]), (23, .g [.v (.slice A l.length cap), .v (.int .u32 lim), .v (.bool dead)]), (22, .c (.v (MX.val ⟨A1, c1, l, lim, dead⟩)))] (.vals u), [.b true 25 [.v (.slice A l.length cap), .v (.int .u32 lim), .v (.bool dead)], .b true 53 (CH.sc c0), .s A1 c1 l.length 45 12 ((l).flatMap CH.cells), .no, .no, .no, .no]⟩ := by
    intro A1 c1 g1 k1 u
    refine Hs.branch3 3 5 6 (by kernel_rfl) ?_ ?_ ?_
    · refine Hs.callS (cf := CH.cells) (E := 45) (size := 12) (fun A cap => MX.val ⟨A, cap, l, lim, dead⟩) (l) (l.length) rfl (fun w' H => to26_any A cap _ l lim dead w' rfl (hr.only H.only) hf) (by kernel_rfl) (by kernel_rfl) fun A3 c3 g3 k3 => ?_
      refine Hs.run0 300 (fun _ => by kernel_rfl) ?_
      exact Hs.gotoA (afterR Try.f5 5) [0, 1, 2, 7, 1004, 1005, 1006] [.b true 25 [.v (.slice A l.length cap), .v (.int .u32 lim), .v (.bool dead)], .b true 53 (CH.sc c0), .s A1 c1 l.length 45 12 ((l).flatMap CH.cells), .s A3 c3 l.length 45 12 ((l).flatMap CH.cells), .no, .no, .no] [(1, .c (.v (.int .u32 loc))), (3, .c (.p 0 0)), (5, .c (.p 1 0)), (21, .g [.v (.slice A l.length cap), .v (.int .u32 lim), .v (.bool dead)]), (23, .g [.v (.slice A l.length cap), .v (.int .u32 lim), .v (.bool dead)]), (22, .c (.v (MX.val ⟨A1, c1, l, lim, dead⟩))), (24, .c (.v (MX.val ⟨A3, c3, l, lim, dead⟩)))] (by kernel_rfl) (by decide) (by kernel_rfl) (by kernel_rfl) (fun _ => (by kernel_rfl)) (by kernel_rfl) (fun u => K5_1_3 A1 c1 g1 k1 A3 c3 g3 k3 u)
    · refine Hs.run1 300 (fun _ => by kernel_rfl) fun b5 => ?_
      exact Hs.gotoA (afterR Try.f5 5) [0, 1, 2, 1003, 1004, 7, 1006] [.b true 25 [.v (.slice A l.length cap), .v (.int .u32 lim), .v (.bool dead)], .b true 53 (CH.sc c0), .s A1 c1 l.length 45 12 ((l).flatMap CH.cells), .no, .no, .b true 34 [.v (.slice none 0 0), .v (.int .u32 0), .v (.bool false)], .no] [(1, .c (.v (.int .u32 loc))), (3, .c (.p 0 0)), (5, .c (.p 1 0)), (21, .g [.v (.slice A l.length cap), .v (.int .u32 lim), .v (.bool dead)]), (23, .g [.v (.slice A l.length cap), .v (.int .u32 lim), .v (.bool dead)]), (22, .c (.v (MX.val ⟨A1, c1, l, lim, dead⟩))), (7, .c (.p 5 0))] (by kernel_rfl) (by decide) (by kernel_rfl) (by kernel_rfl) (fun _ => (by kernel_rfl)) (by kernel_rfl) (fun u => K5_1_5 A1 c1 g1 k1 b5 u)
    · refine Hs.run1 300 (fun _ => by kernel_rfl) fun b6 => ?_
      exact Hs.gotoA (afterR Try.f5 5) [0, 1, 2, 1003, 1004, 1005, 7] [.b true 25 [.v (.slice A l.length cap), .v (.int .u32 lim), .v (.bool dead)], .b true 53 (CH.sc c0), .s A1 c1 l.length 45 12 ((l).flatMap CH.cells), .no, .no, .no, .b true 56 [.v (.slice none 0 0), .v (.int .u32 0), .v (.bool false)]] [(1, .c (.v (.int .u32 loc))), (3, .c (.p 0 0)), (5, .c (.p 1 0)), (21, .g [.v (.slice A l.length cap), .v (.int .u32 lim), .v (.bool dead)]), (23, .g [.v (.slice A l.length cap), .v (.int .u32 lim), .v (.bool dead)]), (22, .c (.v (MX.val ⟨A1, c1, l, lim, dead⟩))), (8, .c (.p 6 0))] (by kernel_rfl) (by decide) (by kernel_rfl) (by kernel_rfl) (fun _ => (by kernel_rfl)) (by kernel_rfl) (fun u => K5_1_6 A1 c1 g1 k1 b6 u)
  have K5_5 : ∀ (b5 : Nat) (u : Nat → Value), Hs Try.prog 5 (fun e w' => e = .returned (.bool true) ∧ Only [] w w') (Try.f5).ntmps w [] [b0, b1, 0, 0, 0, b5, 0] ⟨.any (opsOf Try.f5 5) 6 37 [0], afterR Try.f5 5, pins [(1, .c (.v (.int .u32 loc))), (3, .c (.p 0 0)), (5, .c (.p 1 0)), (21, .g [.v (.slice A l.length cap), .v (.int .u32 lim), .v (.bool dead)]), (23, .g [.v (.slice A l.length cap), .v (.int .u32 lim), .v (.bool dead)]), (7, .c (.p 5 0))] (.vals u), [.b true 25 [.v (.slice A l.length cap), .v (.int .u32 lim), .v (.bool dead)], .b true 53 (CH.sc c0), .no, .no, .no, .b true 34 [.v (.slice none 0 0), .v (.int .u32 0), .v (.bool false)], .no]⟩ := by
    intro b5 u
    refine Hs.branch2 1 6 (by kernel_rfl) ?_ ?_
    · refine Hs.callS (cf := CH.cells) (E := 45) (size := 12) (fun A cap => MX.val ⟨A, cap, l, lim, dead⟩) (l) (l.length) rfl (fun w' H => to26_any A cap _ l lim dead w' rfl (hr.only H.only) hf) (by kernel_rfl) (by kernel_rfl) fun A1 c1 g1 k1 => ?_
      refine Hs.run0 300 (fun _ => by kernel_rfl) ?_
      exact Hs.gotoA (afterR Try.f5 5) [0, 1, 7, 1003, 1004, 5, 1006] [.b true 25 [.v (.slice A l.length cap), .v (.int .u32 lim), .v (.bool dead)], .b true 53 (CH.sc c0), .s A1 c1 l.length 45 12 ((l).flatMap CH.cells), .no, .no, .b true 34 [.v (.slice none 0 0), .v (.int .u32 0), .v (.bool false)], .no] [(1, .c (.v (.int .u32 loc))), (3, .c (.p 0 0)), (5, .c (.p 1 0)), (21, .g [.v (.slice A l.length cap), .v (.int .u32 lim), .v (.bool dead)]), (23, .g [.v (.slice A l.length cap), .v (.int .u32 lim), .v (.bool dead)]), (22, .c (.v (MX.val ⟨A1, c1, l, lim, dead⟩))), (7, .c (.p 5 0))] (by kernel_rfl) (by decide) (by kernel_rfl) (by kernel_rfl) (fun _ => (by kernel_rfl)) (by kernel_rfl) (fun u => K5_1_5 A1 c1 g1 k1 b5 u)
    · refine Hs.run1 300 (fun _ => by kernel_rfl) fun b6 => ?_
      refine Hs.callS (cf := CH.cells) (E := 45) (size := 12) (fun A cap => MX.val ⟨A, cap, l, lim, dead⟩) (l) (l.length) rfl (fun w' H => to26_any A cap _ l lim dead w' rfl (hr.only H.only) hf) (by kernel_rfl) (by kernel_rfl) fun A1 c1 g1 k1 => ?_
      refine Hs.run0 300 (fun _ => by kernel_rfl) ?_
      refine Hs.callS (cf := CH.cells) (E := 45) (size := 12) (fun A cap => MX.val ⟨A, cap, l, lim, dead⟩) (l) (l.length) rfl (fun w' H => to26_any A cap _ l lim dead w' rfl (hr.only H.only) hf) (by kernel_rfl) (by kernel_rfl) fun A3 c3 g3 k3 => ?_
      refine Hs.run0 300 (fun _ => by kernel_rfl) ?_
      refine Hs.callS (cf := CH.cells) (E := 61) (size := 12) (fun A cap => MX.val ⟨A, cap, l, lim, dead⟩) (l) (l.length) rfl (fun w' H => from26_any ⟨A3, c3, l, lim, dead⟩ w' ⟨H.rdX 9 (A := A3) (cap := c3) (E := 45) (size := 12) rfl (by kernel_rfl), g3, k3, hcs, hlim⟩ hf) (by kernel_rfl) (by kernel_rfl) fun A4 c4 g4 k4 => ?_
      refine Hs.runU0 (afterR Try.f5 5).length [] 300 (fun _ => by kernel_rfl) ?_
      exact Hs.goto (afterR Try.f5 5) [0, 1, 8, 9, 10, 5, 7] [.b true 25 [.v (.slice A l.length cap), .v (.int .u32 lim), .v (.bool dead)], .b true 53 (CH.sc c0), .s A1 c1 l.length 45 12 ((l).flatMap CH.cells), .s A3 c3 l.length 45 12 ((l).flatMap CH.cells), .s A4 c4 l.length 61 12 ((l).flatMap CH.cells), .b true 34 (MX.sc ⟨A1, c1, l, lim, dead⟩), .b true 56 (MX.sc ⟨A4, c4, l, lim, dead⟩)] [(1, .c (.v (.int .u32 loc))), (3, .c (.p 0 0)), (5, .c (.p 1 0)), (7, .c (.p 5 0)), (8, .c (.p 6 0))] (by kernel_rfl) (by decide) (by kernel_rfl) (by kernel_rfl) (fun _ => (by kernel_rfl)) (fun u => KE A1 c1 g1 k1 A3 c3 g3 k3 A4 c4 g4 k4 b5 b6 u)
  have K5_6 : ∀ (b6 : Nat) (u : Nat → Value), Hs Try.prog 5 (fun e w' => e = .returned (.bool true) ∧ Only [] w w') (Try.f5).ntmps w [] [b0, b1, 0, 0, 0, 0, b6] ⟨.any (opsOf Try.f5 5) 6 69 [0], afterR Try.f5 5, pins [(1, .c (.v (.int .u32 loc))), (3, .c (.p 0 0)), (5, .c (.p 1 0)), (21, .g [.v (.slice A l.length cap), .v (.int .u32 lim), .v (.bool dead)]), (23, .g [.v (.slice A l.length cap), .v (.int .u32 lim), .v (.bool dead)]), (8, .c (.p 6 0))] (.vals u), [.b true 25 [.v (.slice A l.length cap), .v (.int .u32 lim), .v (.bool dead)], .b true 53 (CH.sc c0), .no, .no, .no, .no, .b true 56 [.v (.slice none 0 0), .v (.int .u32 0), .v (.bool false)]]⟩ := by
    intro b6 u
    refine Hs.branch2 1 5 (by kernel_rfl) ?_ ?_
    · refine Hs.callS (cf := CH.cells) (E := 45) (size := 12) (fun A cap => MX.val ⟨A, cap, l, lim, dead⟩) (l) (l.length) rfl (fun w' H => to26_any A cap _ l lim dead w' rfl (hr.only H.only) hf) (by kernel_rfl) (by kernel_rfl) fun A1 c1 g1 k1 => ?_
      refine Hs.run0 300 (fun _ => by kernel_rfl) ?_
      exact Hs.gotoA (afterR Try.f5 5) [0, 1, 7, 1003, 1004, 1005, 6] [.b true 25 [.v (.slice A l.length cap), .v (.int .u32 lim), .v (.bool dead)], .b true 53 (CH.sc c0), .s A1 c1 l.length 45 12 ((l).flatMap CH.cells), .no, .no, .no, .b true 56 [.v (.slice none 0 0), .v (.int .u32 0), .v (.bool false)]] [(1, .c (.v (.int .u32 loc))), (3, .c (.p 0 0)), (5, .c (.p 1 0)), (21, .g [.v (.slice A l.length cap), .v (.int .u32 lim), .v (.bool dead)]), (23, .g [.v (.slice A l.length cap), .v (.int .u32 lim), .v (.bool dead)]), (22, .c (.v (MX.val ⟨A1, c1, l, lim, dead⟩))), (8, .c (.p 6 0))] (by kernel_rfl) (by decide) (by kernel_rfl) (by kernel_rfl) (fun _ => (by kernel_rfl)) (by kernel_rfl) (fun u => K5_1_6 A1 c1 g1 k1 b6 u)
    · refine Hs.run1 300 (fun _ => by kernel_rfl) fun b5 => ?_
      refine Hs.callS (cf := CH.cells) (E := 45) (size := 12) (fun A cap => MX.val ⟨A, cap, l, lim, dead⟩) (l) (l.length) rfl (fun w' H => to26_any A cap _ l lim dead w' rfl (hr.only H.only) hf) (by kernel_rfl) (by kernel_rfl) fun A1 c1 g1 k1 => ?_
      refine Hs.run0 300 (fun _ => by kernel_rfl) ?_
      refine Hs.callS (cf := CH.cells) (E := 45) (size := 12) (fun A cap => MX.val ⟨A, cap, l, lim, dead⟩) (l) (l.length) rfl (fun w' H => to26_any A cap _ l lim dead w' rfl (hr.only H.only) hf) (by kernel_rfl) (by kernel_rfl) fun A3 c3 g3 k3 => ?_
      refine Hs.run0 300 (fun _ => by kernel_rfl) ?_
      refine Hs.callS (cf := CH.cells) (E := 61) (size := 12) (fun A cap => MX.val ⟨A, cap, l, lim, dead⟩) (l) (l.length) rfl (fun w' H => from26_any ⟨A3, c3, l, lim, dead⟩ w' ⟨H.rdX 9 (A := A3) (cap := c3) (E := 45) (size := 12) rfl (by kernel_rfl), g3, k3, hcs, hlim⟩ hf) (by kernel_rfl) (by kernel_rfl) fun A4 c4 g4 k4 => ?_
      refine Hs.runU0 (afterR Try.f5 5).length [] 300 (fun _ => by kernel_rfl) ?_
      exact Hs.goto (afterR Try.f5 5) [0, 1, 8, 9, 10, 7, 6] [.b true 25 [.v (.slice A l.length cap), .v (.int .u32 lim), .v (.bool dead)], .b true 53 (CH.sc c0), .s A1 c1 l.length 45 12 ((l).flatMap CH.cells), .s A3 c3 l.length 45 12 ((l).flatMap CH.cells), .s A4 c4 l.length 61 12 ((l).flatMap CH.cells), .b true 34 (MX.sc ⟨A1, c1, l, lim, dead⟩), .b true 56 (MX.sc ⟨A4, c4, l, lim, dead⟩)] [(1, .c (.v (.int .u32 loc))), (3, .c (.p 0 0)), (5, .c (.p 1 0)), (7, .c (.p 5 0)), (8, .c (.p 6 0))] (by kernel_rfl) (by decide) (by kernel_rfl) (by kernel_rfl) (fun _ => (by kernel_rfl)) (fun u => KE A1 c1 g1 k1 A3 c3 g3 k3 A4 c4 g4 k4 b5 b6 u)
  have K5_0x : ∀ (u : Nat → Value), Hs Try.prog 5 (fun e w' => e = .returned (.bool true) ∧ Only [] w w') (Try.f5).ntmps w [] [b0, b1, 0, 0, 0, 0, 0] ⟨.any (opsOf Try.f5 5) 7 5 [0], afterR Try.f5 5, pins [(1, .c (.v (.int .u32 loc))), (3, .c (.p 0 0)), (5, .c (.p 1 0)), (21, .g [.v (.slice A l.length cap), .v (.int .u32 lim), .v (.bool dead)]), (23, .g [.v (.slice A l.length cap), .v (.int .u32 lim), .v (.bool dead)])] (.vals u), [.b true 25 [.v (.slice A l.length cap), .v (.int .u32 lim), .v (.bool dead)], .b true 53 (CH.sc c0), .no, .no, .no, .no, .no]⟩ := by
    intro  u
    refine Hs.branch3 1 5 6 (by kernel_rfl) ?_ ?_ ?_
    · refine Hs.callS (cf := CH.cells) (E := 45) (size := 12) (fun A cap => MX.val ⟨A, cap, l, lim, dead⟩) (l) (l.length) rfl (fun w' H => to26_any A cap _ l lim dead w' rfl (hr.only H.only) hf) (by kernel_rfl) (by kernel_rfl) fun A1 c1 g1 k1 => ?_
      refine Hs.run0 300 (fun _ => by kernel_rfl) ?_
      exact Hs.gotoA (afterR Try.f5 5) [0, 1, 7, 1003, 1004, 1005, 1006] [.b true 25 [.v (.slice A l.length cap), .v (.int .u32 lim), .v (.bool dead)], .b true 53 (CH.sc c0), .s A1 c1 l.length 45 12 ((l).flatMap CH.cells), .no, .no, .no, .no] [(1, .c (.v (.int .u32 loc))), (3, .c (.p 0 0)), (5, .c (.p 1 0)), (21, .g [.v (.slice A l.length cap), .v (.int .u32 lim), .v (.bool dead)]), (23, .g [.v (.slice A l.length cap), .v (.int .u32 lim), .v (.bool dead)]), (22, .c (.v (MX.val ⟨A1, c1, l, lim, dead⟩)))] (by kernel_rfl) (by decide) (by kernel_rfl) (by kernel_rfl) (fun _ => (by kernel_rfl)) (by kernel_rfl) (fun u => K5_1 A1 c1 g1 k1 u)
    · refine Hs.run1 300 (fun _ => by kernel_rfl) fun b5 => ?_
      exact Hs.gotoA (afterR Try.f5 5) [0, 1, 1002, 1003, 1004, 7, 1006] [.b true 25 [.v (.slice A l.length cap), .v (.int .u32 lim), .v (.bool dead)], .b true 53 (CH.sc c0), .no, .no, .no, .b true 34 [.v (.slice none 0 0), .v (.int .u32 0), .v (.bool false)], .no] [(1, .c (.v (.int .u32 loc))), (3, .c (.p 0 0)), (5, .c (.p 1 0)), (21, .g [.v (.slice A l.length cap), .v (.int .u32 lim), .v (.bool dead)]), (23, .g [.v (.slice A l.length cap), .v (.int .u32 lim), .v (.bool dead)]), (7, .c (.p 5 0))] (by kernel_rfl) (by decide) (by kernel_rfl) (by kernel_rfl) (fun _ => (by kernel_rfl)) (by kernel_rfl) (fun u => K5_5 b5 u)
    · refine Hs.run1 300 (fun _ => by kernel_rfl) fun b6 => ?_
      exact Hs.gotoA (afterR Try.f5 5) [0, 1, 1002, 1003, 1004, 1005, 7] [.b true 25 [.v (.slice A l.length cap), .v (.int .u32 lim), .v (.bool dead)], .b true 53 (CH.sc c0), .no, .no, .no, .no, .b true 56 [.v (.slice none 0 0), .v (.int .u32 0), .v (.bool false)]] [(1, .c (.v (.int .u32 loc))), (3, .c (.p 0 0)), (5, .c (.p 1 0)), (21, .g [.v (.slice A l.length cap), .v (.int .u32 lim), .v (.bool dead)]), (23, .g [.v (.slice A l.length cap), .v (.int .u32 lim), .v (.bool dead)]), (8, .c (.p 6 0))] (by kernel_rfl) (by decide) (by kernel_rfl) (by kernel_rfl) (fun _ => (by kernel_rfl)) (by kernel_rfl) (fun u => K5_6 b6 u)
  refine Hs.any [0] (by kernel_rfl) ?_
  refine Hs.run0 300 (fun _ => by kernel_rfl) ?_
  exact Hs.gotoA (afterR Try.f5 5) [0, 1, 1002, 1003, 1004, 1005, 1006] [.b true 25 [.v (.slice A l.length cap), .v (.int .u32 lim), .v (.bool dead)], .b true 53 (CH.sc c0), .no, .no, .no, .no, .no] [(1, .c (.v (.int .u32 loc))), (3, .c (.p 0 0)), (5, .c (.p 1 0)), (21, .g [.v (.slice A l.length cap), .v (.int .u32 lim), .v (.bool dead)]), (23, .g [.v (.slice A l.length cap), .v (.int .u32 lim), .v (.bool dead)])] (by kernel_rfl) (by decide) (by kernel_rfl) (by kernel_rfl) (fun _ => (by kernel_rfl)) (by kernel_rfl) (fun u => K5_0x  u)
end Go.Proofs.Ytbamojbkehnmkaa
