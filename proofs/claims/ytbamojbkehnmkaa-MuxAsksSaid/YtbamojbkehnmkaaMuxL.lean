/- Layer 26: the document's examples; no condition. -/
import Derived.Test.YtbamojbkehnmkaaMuxK
import Derived.Test.YtbamojbkehnmkaaEngO
namespace Go.Proofs.Ytbamojbkehnmkaa
set_option linter.all false
set_option maxRecDepth 100000
open Go.RowKit

def am1 : MD := ⟨90, 0, 7, 5, 5, 0, session, ⟨#[]⟩, false, none, 0, []⟩
def am2 : MD := ⟨94, 3, 0, 0, 0, 0, ⟨#[]⟩, ⟨#[]⟩, false, none, 0, []⟩
def am3 : MD := ⟨80, 0, 0, 0, 0, 0, ⟨#[120]⟩, ⟨#[]⟩, false, none, 0, []⟩
def ac1 : CH := ⟨0, 7, 5, 5, 9, 9, false, false, false, false, 0, false⟩
theorem ac1_ok : ac1.ok := by constructor <;> first | decide | (unfold U32; decide)
theorem ar1 : takeR [] 9 false am1 = ⟨[ac1], false, [(91, 7)], [1], 0⟩ := rfl
theorem ar2 : takeR [ac1] 9 false am2 = ⟨[ac1], true, [(1, 0)], [], 8⟩ := rfl
theorem ar3 : takeR [ac1] 9 true am3 = ⟨[ac1], true, [], [], 9⟩ := rfl
theorem min_of (w : World) {m : MD} (h : m.data = []) (h1 : U32 m.window) (h2 : U32 m.packet) (h3 : U32 m.sender) : MIn w m := ⟨by rw [h]; exact rdX_nil, by rw [h]; simp, by rw [h]; simp, h1, h2, h3⟩
theorem am_in (w : World) : MIn w am1 ∧ MIn w am2 ∧ MIn w am3 := by
  refine ⟨min_of _ rfl ?_ ?_ ?_, min_of _ rfl ?_ ?_ ?_, min_of _ rfl ?_ ?_ ?_⟩ <;> (unfold U32; decide)
def MTake6 (x : MX) (r : TR) : (Option Addr × Nat) × (Option Addr × Nat) × (Option Addr × Nat) → Value := fun y => .tuple #[MX.val ⟨y.1.1, y.1.2, r.l, x.lim, r.dead⟩, .slice y.2.1.1 r.out.length y.2.1.2, .slice y.2.2.1 r.ev.length y.2.2.2, .int .i64 r.err]
theorem take6 {x : MX} {r : TR} {w : World} {F : FuncId} {args : Array Value} (h : Calls Try.prog F args w (MTakeP x r w)) : Calls Try.prog F args w fun e w' => ∃ y, e = .returned (MTake6 x r y) ∧ Only [] w w' ∧ MTakeQ x r w w' y.1.1 y.1.2 y.2.1.1 y.2.1.2 y.2.2.1 y.2.2.2 :=
  h.mono fun _ _ ⟨A, cap, oA, oC, eA, eC, h1, h2, h3⟩ => ⟨((A, cap), (oA, oC), (eA, eC)), h1, h2, h3⟩
/-- Channels that were handed back are channels to be handed in. -/
theorem ok_now {w w' : World} {L β : List Nat} {hp : List HB} {A : Option Addr} {cap : Nat} {l : List CH} {lim : Int} {dead : Bool} (h : RdO CH.cells w L A l) (H : Mem w L β hp w') (h1 : l.length ≤ cap) (h2 : cap ≤ maxLen) (h3 : ∀ c ∈ l, c.ok) (h4 : U32 lim) : MX.ok w' ⟨A, cap, l, lim, dead⟩ := ⟨h.now H, h1, h2, h3, h4⟩
theorem one_some {α : Type} {cf : α → List Value} {w : World} {A : Option Addr} {l : List α} (h : RdX cf w A l) (h0 : 0 < l.length) : ∃ b off, A = some ⟨b, off, none⟩ := by
  obtain ⟨b, off, e, _⟩ := h h0
  exact ⟨b, off, e⟩
theorem few1 : Few [ac1] := by unfold Few; decide
theorem u9 : U32 9 := by unfold U32; decide
theorem ac_all : ∀ c ∈ [ac1], c.ok := fun c hc => by rw [List.mem_singleton.1 hc]; exact ac1_ok
theorem map_one {α γ : Type} {f : α → γ} {l : List α} {a : γ} (h : l.map f = [a]) : ∃ x, l = [x] ∧ f x = a := by
  match l, h with
  | [x], h => exact ⟨x, rfl, by simpa using h⟩
set_option maxHeartbeats 1000000 in
theorem alive26_any (w : World) : Calls Try.prog 6 #[] w fun e w' => e = .returned (.bool true) ∧ Only [] w w' := by
  refine Hs.enter Try.func6 [] [] [] [] (Mem.start0 w) (by kernel_rfl) (by kernel_rfl) ?_
  refine Hs.run0 300 (fun _ => by kernel_rfl) ?_
  refine Hs.callE (MTake6 ⟨none, 0, [], 9, false⟩ ⟨[ac1], false, [(91, 7)], [1], 0⟩) (fun y w w' => MTakeQ ⟨none, 0, [], 9, false⟩ ⟨[ac1], false, [(91, 7)], [1], 0⟩ w w' y.1.1 y.1.2 y.2.1.1 y.2.1.2 y.2.2.1 y.2.2.2) (fun w' H => take6 (ar1 ▸ take_any ⟨none, 0, [], 9, false⟩ am1 w' ⟨rdX_nil, by simp, by decide, by simp, u9⟩ (by unfold Few; decide) (am_in _).1)) (by kernel_rfl) (by kernel_rfl) fun y wa w1 Ha Oa Q1 B1 L1 => ?_
  obtain ⟨⟨A1, c1⟩, ⟨oA1, oC1⟩, ⟨eA1, eC1⟩⟩ := y
  obtain ⟨rc1, hc1, hc2, fc1⟩ := Q1.rdChs
  obtain ⟨outs1, ho1, ro1, fo1⟩ := Q1.rdOut
  obtain ⟨evs1, he1, re1, fe1⟩ := Q1.rdEv
  dsimp only at rc1 hc1 hc2 fc1 ro1 fo1 re1 fe1 ho1 he1
  have rc1 := RdO.new rc1 fc1 L1
  have ro1 := RdO.new ro1 fo1 L1
  have re1 := RdO.new re1 fe1 L1
  clear Q1
  refine Hs.run1 300 (fun _ => by kernel_rfl) fun b0 => ?_
  refine Hs.callE (MTake6 ⟨A1, c1, [ac1], 9, false⟩ ⟨[ac1], true, [(1, 0)], [], 8⟩) (fun y w w' => MTakeQ ⟨A1, c1, [ac1], 9, false⟩ ⟨[ac1], true, [(1, 0)], [], 8⟩ w w' y.1.1 y.1.2 y.2.1.1 y.2.1.2 y.2.2.1 y.2.2.2) (fun w' H => take6 (ar2 ▸ take_any ⟨A1, c1, [ac1], 9, false⟩ am2 w' (ok_now rc1 H hc1 hc2 ac_all u9) few1 (am_in _).2.1)) (by kernel_rfl) (by kernel_rfl) fun y wb w2 Hb Ob Q2 B2 L2 => ?_
  have ro1 := (ro1.step Hb).only Ob
  have re1 := (re1.step Hb).only Ob
  obtain ⟨⟨A2, c2⟩, ⟨oA2, oC2⟩, ⟨eA2, eC2⟩⟩ := y
  obtain ⟨rc2, hc3, hc4, fc2⟩ := Q2.rdChs
  obtain ⟨outs2, ho2, ro2, fo2⟩ := Q2.rdOut
  dsimp only at rc2 hc3 hc4 fc2 ro2 fo2 ho2
  have rc2 := RdO.new rc2 fc2 L2
  have ro2 := RdO.new ro2 fo2 L2
  clear Q2
  refine Hs.run1 300 (fun _ => by kernel_rfl) fun b1 => ?_
  refine Hs.callE (MTake6 ⟨A2, c2, [ac1], 9, true⟩ ⟨[ac1], true, [], [], 9⟩) (fun y w w' => MTakeQ ⟨A2, c2, [ac1], 9, true⟩ ⟨[ac1], true, [], [], 9⟩ w w' y.1.1 y.1.2 y.2.1.1 y.2.1.2 y.2.2.1 y.2.2.2) (fun w' H => take6 (ar3 ▸ take_any ⟨A2, c2, [ac1], 9, true⟩ am3 w' (ok_now rc2 H hc3 hc4 ac_all u9) few1 (am_in _).2.2)) (by kernel_rfl) (by kernel_rfl) fun y wc w3 Hc Oc Q3 B3 L3 => ?_
  have ro1 := (ro1.step Hc).only Oc
  have re1 := (re1.step Hc).only Oc
  have ro2 := (ro2.step Hc).only Oc
  obtain ⟨⟨A3, c3⟩, ⟨oA3, oC3⟩, ⟨eA3, eC3⟩⟩ := y
  clear Q3
  obtain ⟨o1, rfl, h1⟩ := map_one ho1
  obtain ⟨o2, rfl, h2⟩ := map_one ho2
  obtain ⟨e1, rfl, h3⟩ := map_one he1
  simp only [Prod.mk.injEq] at h1 h2
  obtain ⟨ok1, oc1⟩ := h1
  obtain ⟨ok2, oc2⟩ := h2
  obtain ⟨ob1, of1, rfl⟩ := one_some ro1.rd (by simp)
  obtain ⟨eb1, ef1, rfl⟩ := one_some re1.rd (by simp)
  obtain ⟨ob2, of2, rfl⟩ := one_some ro2.rd (by simp)
  refine Hs.rung1 [2, 8, 13, 20, 27, 32, 39, 44, 51, 56, 60, 64] 300 (fun _ => (by kernel_rfl)) fun b2 => ?_
  refine Hs.idx elemMs (b := ob1) (off := of1) (c := oC1) (len := 1) (i := 0) (by decide) (by kernel_rfl) ?_
  refine Hs.rung0 [2, 8, 13, 20, 27, 32, 39, 44, 51, 56, 60, 64] 300 (fun _ => (by kernel_rfl)) ?_
  refine Hs.ldO (E' := 3) (i := 0) (j := 0) mdr_len ro1 rfl (.int .i64 91) (congrArg (fun k => some (Value.int .i64 k)) ok1) (by kernel_rfl) (by kernel_rfl) ?_
  refine Hs.rung0 [2, 8, 13, 20, 27, 32, 39, 44, 51, 56, 60, 64] 300 (fun _ => (by kernel_rfl)) ?_
  refine Hs.idx elemMs (b := ob1) (off := of1) (c := oC1) (len := 1) (i := 0) (by decide) (by kernel_rfl) ?_
  refine Hs.rung0 [2, 8, 13, 20, 27, 32, 39, 44, 51, 56, 60, 64] 300 (fun _ => (by kernel_rfl)) ?_
  refine Hs.ldO (E' := 23) (i := 0) (j := 1) mdr_len ro1 rfl (.int .u32 7) (congrArg (fun k => some (Value.int .u32 k)) oc1) (by kernel_rfl) (by kernel_rfl) ?_
  refine Hs.rung0 [2, 8, 13, 20, 27, 32, 39, 44, 51, 56, 60, 64] 300 (fun _ => (by kernel_rfl)) ?_
  refine Hs.idx elemEv (b := eb1) (off := ef1) (c := eC1) (len := 1) (i := 0) (by decide) (by kernel_rfl) ?_
  refine Hs.rung0 [2, 8, 13, 20, 27, 32, 39, 44, 51, 56, 60, 64] 300 (fun _ => (by kernel_rfl)) ?_
  refine Hs.ldO (E' := 3) (i := 0) (j := 0) ev_len re1 rfl (.int .i64 1) (congrArg (fun k => some (Value.int .i64 k)) h3) (by kernel_rfl) (by kernel_rfl) ?_
  refine Hs.rung0 [2, 8, 13, 20, 27, 32, 39, 44, 51, 56, 60, 64] 300 (fun _ => (by kernel_rfl)) ?_
  refine Hs.idx elemMs (b := ob2) (off := of2) (c := oC2) (len := 1) (i := 0) (by decide) (by kernel_rfl) ?_
  refine Hs.rung0 [2, 8, 13, 20, 27, 32, 39, 44, 51, 56, 60, 64] 300 (fun _ => (by kernel_rfl)) ?_
  refine Hs.ldO (E' := 3) (i := 0) (j := 0) mdr_len ro2 rfl (.int .i64 1) (congrArg (fun k => some (Value.int .i64 k)) ok2) (by kernel_rfl) (by kernel_rfl) ?_
  refine Hs.rung0 [2, 8, 13, 20, 27, 32, 39, 44, 51, 56, 60, 64] 300 (fun _ => (by kernel_rfl)) ?_
  exact Hs.ret (v := .bool true) Try.func6 (by kernel_rfl) fun w' H => ⟨rfl, B1.trans (B2.trans B3) w' H.only⟩
end Go.Proofs.Ytbamojbkehnmkaa
