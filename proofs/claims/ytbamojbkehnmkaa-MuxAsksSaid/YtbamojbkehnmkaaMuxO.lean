/- Layer 26: MuxApart: what comes for one channel changes no other one, for all channels and messages; no condition. -/
import Derived.Test.YtbamojbkehnmkaaMuxM
import Derived.Test.YtbamojbkehnmkaaMuxN
import Derived.Test.YtbamojbkehnmkaaEngG
namespace Go.Proofs.Ytbamojbkehnmkaa
set_option linter.all false
set_option maxRecDepth 100000
open Go.RowKit

/-- What a message that is handed in is. -/
structure MArg (w : World) (m : MD) : Prop where
  rd : RdX u8c w m.dA m.data
  dle : m.data.length ≤ m.dc
  dmax : m.dc ≤ maxLen
  win : U32 m.window
  pack : U32 m.packet
  send : U32 m.sender
theorem MArg.min {w w1 w' : World} {L β : List Nat} {hp : List HB} {m : MD} (h : MArg w m) (hd : RdO u8c w1 L m.dA m.data) (H : Mem w1 L β hp w') (h2 : m.data.length ≤ 100000) : MIn w' m := ⟨hd.now H, by omega, h.dle, h.win, h.pack, h.send⟩
set_option maxHeartbeats 2000000 in
theorem apart_walk (A : Option Addr) (cap : Nat) (l : List CH) (lim : Int) (dead : Bool) (m : MD) (w : World) (hr : RdX CH.cells w A l) (hl1 : l.length ≤ cap) (hl2 : cap ≤ maxLen) (hcs : ∀ c ∈ l, c.ok) (hlim : U32 lim) (hm : MArg w m) : Calls Try.prog 3 #[.agg #[.slice A l.length cap, .int .u32 lim, .bool dead], m.val] w fun e w' => e = .returned (.bool true) ∧ Only [] w w' := by
  refine Hs.enter Try.func3 [] [] [] [.g [.v (.slice A l.length cap), .v (.int .u32 lim), .v (.bool dead)], .g m.sc] (Mem.start0 w) (by kernel_rfl) (by kernel_rfl) ?_
  refine Hs.run2 300 (fun _ => by kernel_rfl) fun b0 b1 => ?_
  refine Hs.callV (fun w' _ => alive26_any w') (by kernel_rfl) ?_
  refine Hs.run0 300 (fun _ => by kernel_rfl) ?_
  refine Hs.condF (by kernel_rfl) ?_
  refine Hs.run1 300 (fun _ => by kernel_rfl) fun b2 => ?_
  refine Hs.callX (X := Bool) (fun b => .bool b) (fun b => b = false → Small l.length [m]) (fun w' H => great26_any A l.length cap lim dead [m] (some ⟨b2, 0, none⟩) 1 w' (H.rdB (gs := [m]) 2 (wr := true) (T := 28) (cs := m.row.map SC.v) (by kernel_rfl) rfl) (by simp only [List.length_singleton]; decide)) (by kernel_rfl) fun g hg => ?_
  refine Hs.run0 300 (fun _ => by kernel_rfl) ?_
  refine Hs.cond g (by kernel_rfl) (fun h1 => ?_) (fun h1 => ?_)
  · refine Hs.run0 300 (fun _ => by kernel_rfl) ?_
    exact Hs.ret (v := .bool true) Try.func3 (by kernel_rfl) fun w' H => ⟨rfl, H.only⟩
  obtain ⟨h40, _, hd⟩ := hg h1
  have hd := hd m (by simp)
  have hf : Few l := by unfold Few; omega
  clear h1 hg
  refine Hs.run0 300 (fun _ => by kernel_rfl) ?_
  refine Hs.callF (X := Option Addr × Nat) (fun y => MX.val ⟨y.1, y.2, l, lim, dead⟩) (fun y w w' => OwnX CH.cells 45 12 w' w.heap.size (.slice y.1 l.length y.2) l) (fun w' H => (to26_any A cap _ l lim dead w' rfl (hr.only H.only) hf).mono fun e w2 ⟨A2, c2, h1, h2, h3⟩ => ⟨(A2, c2), h1, h2, h3⟩) (by kernel_rfl) (by kernel_rfl) fun y wa w1 La ea Ha Oa Q1 B1 L1 => ?_
  have rm1 := (RdO.stepL ea (RdO.nil hm.rd) Ha).only Oa
  clear ea
  obtain ⟨A1, c1⟩ := y
  obtain ⟨_, _, e0, hc1, hc2, rc1, fc1⟩ := Q1.form
  injection e0 with e1 _ e3
  subst e1; subst e3
  have rc1 := RdO.new rc1 (fun a ha => (fc1 a ha).1) L1
  clear fc1 Q1
  refine Hs.run1 300 (fun _ => by kernel_rfl) fun b3 => ?_
  refine Hs.callF (MTake6 ⟨A1, c1, l, lim, dead⟩ (takeR l lim dead m)) (fun y w w' => MTakeQ ⟨A1, c1, l, lim, dead⟩ (takeR l lim dead m) w w' y.1.1 y.1.2 y.2.1.1 y.2.1.2 y.2.2.1 y.2.2.2) (fun w' H => take6 (take_any ⟨A1, c1, l, lim, dead⟩ m w' (ok_now rc1 H hc1 hc2 hcs hlim) hf (hm.min rm1 H hd))) (by kernel_rfl) (by kernel_rfl) fun y wb w2 Lb eb Hb Ob Q2 B2 L2 => ?_
  have cs2 := takeR_ok (dead := dead) hcs hlim (hm.min rm1 Hb hd)
  have rc1 := (RdO.stepL eb rc1 Hb).only Ob
  clear eb
  obtain ⟨⟨A2, c2⟩, ⟨oA2, oC2⟩, ⟨eA2, eC2⟩⟩ := y
  obtain ⟨rc2, hc3, hc4, fc2⟩ := Q2.rdChs
  dsimp only at rc2 hc3 hc4 fc2
  have rc2 := RdO.new rc2 fc2 L2
  have TA : ∀ c ∈ l, c.loc ≠ m.chan → getL c.loc (takeR l lim dead m).l = getL c.loc l := fun c hc hn => take_apart hc hn
  clear Q2
  obtain ⟨r, hre⟩ : ∃ r, r = takeR l lim dead m := ⟨_, rfl⟩
  rw [← hre] at rc2 cs2 TA hc3 ⊢
  clear hre
  have BB := B1.trans B2
  clear B1 B2 Ha Hb Oa Ob L1 L2
  have J : ∀ (d i : Nat), l.length - i = d → i ≤ l.length → ∀ (b1 b3 b4 : Nat) (u : Nat → Value), Hs Try.prog 3 (fun e w' => e = .returned (.bool true) ∧ Only [] w w') (Try.f3).ntmps w2 Lb [b1, b3, b4] ⟨.no, loopAt Try.f3 0, pins [(3, .c (.p 0 0)), (5, .c (.p 1 0)), (6, .c (.p 2 0)), (33, .c (.v (.slice A1 l.length c1))), (34, .c (.v (.int .i64 l.length))), (35, .c (.v (.int .i64 (i : Nat))))] (.vals u), [.b true 28 m.sc, .b true 34 (MX.sc ⟨A1, c1, l, lim, dead⟩), .b true 34 (MX.sc ⟨A2, c2, r.l, lim, r.dead⟩)]⟩ := by
    intro d
    induction d with
    | zero =>
      intro i hd hi b1 b3 b4 u
      refine Hs.run0 300 (fun _ => by kernel_rfl) ?_
      refine Hs.condP ((i : Int) < (l.length : Int)) (by kernel_rfl) (fun h => by omega) (fun h => ?_)
      refine Hs.run0 300 (fun _ => by kernel_rfl) ?_
      exact Hs.ret (v := .bool true) Try.func3 (by kernel_rfl) fun w' H => ⟨rfl, BB w' H.only⟩
    | succ d ih =>
      intro i hd hi b1 b3 b4 u
      have hil : i < l.length := by omega
      obtain ⟨c, hx⟩ : ∃ c, l[i]? = some c := ⟨_, List.getElem?_eq_getElem hil⟩
      have hcl := List.mem_of_getElem? hx
      obtain ⟨ab, aoff, hA, _, _⟩ := rc1.rd (by omega)
      subst hA
      refine Hs.run0 300 (fun _ => by kernel_rfl) ?_
      refine Hs.condP ((i : Int) < (l.length : Int)) (by kernel_rfl) (fun h => ?_) (fun h => by omega)
      refine Hs.run0 300 (fun _ => by kernel_rfl) ?_
      refine Hs.idx (b := ab) (off := aoff) (c := c1) elemCh hil (by kernel_rfl) ?_
      refine Hs.ldx (E := 45) (b := ab) (off := aoff) (i := i) ch_len (.g c.sc) (by kernel_rfl) (fun w' H => rc1.now H) hx (by kernel_rfl) (by kernel_rfl) (by kernel_rfl) (by kernel_rfl) ?_
      refine Hs.run1 300 (fun _ => by kernel_rfl) fun b5 => ?_
      refine Hs.cond (c.loc == m.chan) (by kernel_rfl) (fun hq => ?_) (fun hq => ?_)
      · refine Hs.run0 300 (fun _ => by kernel_rfl) ?_
        refine Hs.slot 35 (.c (.v (.int .i64 (i + 1 : Nat)))) rfl ((by kernel_rfl : _ = Value.int .i64 (IntKind.i64.wrap ((i : Int) + 1))).trans (wrap_nextI (n := l.length) (Nat.le_trans hc1 hc2))) ?_
        refine Hs.loop (by kernel_rfl) ?_
        exact Hs.goto (loopAt Try.f3 0) [0, 1, 2] [.b true 28 m.sc, .b true 34 (MX.sc ⟨some ⟨ab, aoff, none⟩, c1, l, lim, dead⟩), .b true 34 (MX.sc ⟨A2, c2, r.l, lim, r.dead⟩)] [(3, .c (.p 0 0)), (5, .c (.p 1 0)), (6, .c (.p 2 0)), (33, .c (.v (.slice (some ⟨ab, aoff, none⟩) l.length c1))), (34, .c (.v (.int .i64 l.length))), (35, .c (.v (.int .i64 (i + 1 : Nat))))] (by kernel_rfl) (by decide) (by kernel_rfl) (by kernel_rfl) (fun _ => (by kernel_rfl)) (fun u => ih (i + 1) (by omega) (by omega) b1 b3 b4 u)
      · have hq : c.loc ≠ m.chan := by simpa using hq
        obtain ⟨d2, g1, _, _⟩ := get_mem hcl
        have g2 := TA c hcl hq
        rw [g1] at g2
        have G1 := fun w' hx => muxGet_any ⟨some ⟨ab, aoff, none⟩, c1, l, lim, dead⟩ c.loc w' hx
        have G2 := fun w' hx => muxGet_any ⟨A2, c2, r.l, lim, r.dead⟩ c.loc w' hx
        dsimp only at G1 G2
        rw [g1] at G1
        rw [g2] at G2
        refine Hs.run0 300 (fun _ => by kernel_rfl) ?_
        refine Hs.callV (fun w' H => G1 w' (ok_now rc1 H hc1 hc2 hcs hlim)) (by kernel_rfl) ?_
        refine Hs.run1 300 (fun _ => by kernel_rfl) fun b6 => ?_
        refine Hs.callV (fun w' H => G2 w' (ok_now rc2 H hc3 hc4 cs2 hlim)) (by kernel_rfl) ?_
        refine Hs.run1 300 (fun _ => by kernel_rfl) fun b7 => ?_
        refine Hs.rung0 [2, 6] 11 (fun _ => (by kernel_rfl)) ?_
        refine Hs.same (op := .neq) (T := 45) (CH.cells d2).toArray false (by kernel_rfl) (.inr ⟨rfl, rfl⟩) (by kernel_rfl) ?_
        refine Hs.rung0 [2, 6] 300 (fun _ => (by kernel_rfl)) ?_
        refine Hs.condF (by kernel_rfl) ?_
        refine Hs.run0 300 (fun _ => by kernel_rfl) ?_
        refine Hs.slot 35 (.c (.v (.int .i64 (i + 1 : Nat)))) rfl ((by kernel_rfl : _ = Value.int .i64 (IntKind.i64.wrap ((i : Int) + 1))).trans (wrap_nextI (n := l.length) (Nat.le_trans hc1 hc2))) ?_
        refine Hs.loop (by kernel_rfl) ?_
        exact Hs.goto (loopAt Try.f3 0) [0, 1, 2] [.b true 28 m.sc, .b true 34 (MX.sc ⟨some ⟨ab, aoff, none⟩, c1, l, lim, dead⟩), .b true 34 (MX.sc ⟨A2, c2, r.l, lim, r.dead⟩)] [(3, .c (.p 0 0)), (5, .c (.p 1 0)), (6, .c (.p 2 0)), (33, .c (.v (.slice (some ⟨ab, aoff, none⟩) l.length c1))), (34, .c (.v (.int .i64 l.length))), (35, .c (.v (.int .i64 (i + 1 : Nat))))] (by kernel_rfl) (by decide) (by kernel_rfl) (by kernel_rfl) (fun _ => (by kernel_rfl)) (fun u => ih (i + 1) (by omega) (by omega) b1 b3 b4 u)
  refine Hs.run1 300 (fun _ => by kernel_rfl) fun b4 => ?_
  refine Hs.loop (by kernel_rfl) ?_
  exact Hs.goto (loopAt Try.f3 0) [1, 3, 4] [.b true 28 m.sc, .b true 34 (MX.sc ⟨A1, c1, l, lim, dead⟩), .b true 34 (MX.sc ⟨A2, c2, r.l, lim, r.dead⟩)] [(3, .c (.p 0 0)), (5, .c (.p 1 0)), (6, .c (.p 2 0)), (33, .c (.v (.slice A1 l.length c1))), (34, .c (.v (.int .i64 l.length))), (35, .c (.v (.int .i64 (0 : Nat))))] (by kernel_rfl) (by decide) (by kernel_rfl) (by kernel_rfl) (fun _ => (by kernel_rfl)) (fun u => J _ 0 rfl (by omega) b1 b3 b4 u)
end Go.Proofs.Ytbamojbkehnmkaa
