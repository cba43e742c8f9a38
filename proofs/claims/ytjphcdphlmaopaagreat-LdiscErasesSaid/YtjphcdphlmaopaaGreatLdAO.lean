/- Layer 16: plain text, typed and erased, leaves nothing; for all settings and texts; no condition. -/
import Derived.Test.YtjphcdphlmaopaaGreatLdAN
namespace Go.Proofs.YtjphcdphlmaopaaGreat
set_option linter.all false
set_option maxRecDepth 100000
open Go.RowKit

set_option maxHeartbeats 4000000 in
theorem erases_walk (t : TM) (A : Option Addr) (cap : Nat) (text : List Int) (w : World) (hb : RdU w A cap text) : Calls Tryz.prog 5 #[t.val, .slice A text.length cap] w (fun e w' => e = .returned (.bool true) ∧ Only [] w w') := by
  obtain ⟨TT, hTT⟩ : ∃ TT, TT = eraT t := ⟨_, rfl⟩
  have hE : EraT TT := by rw [hTT]; exact eraT_has t
  have hlen : text.length ≤ maxLen := Nat.le_trans hb.2.1 hb.2.2
  have hec : TT.on 3 = true → TT.is 3 (TT.chr 3) = true := fun h => by
    have h2 : (TT.ch 3 == 255) = false := by simpa [TM.on] using h
    unfold TM.is TM.chr
    rw [h, h2]
    simp
  have L5 : TT.on 3 = true → text.length ≤ 200 → (∀ x ∈ text, 32 ≤ x ∧ x < 127) → noOp3 TT (TT.chr 3) 18 1 = true → ((TT.chr 3) == 10) = false → ((TT.chr 3) == 13) = false → ∀ (g b0 : Nat) (e i : Nat), text.length - i = e → i ≤ text.length → ∀ (d : DM) (s : DS) (w2 : World) (L2 : List Nat), Nx w w2 L2 (fun w => Data s d w ∧ True) → Few d → Shown d TT (text.take (text.length - i)) (text.length + 3 * i) → ∀ (u : Nat → Value), Hs Tryz.prog 5 (fun e w' => e = .returned (.bool true) ∧ Only [] w w') (Tryz.f5).ntmps w2 L2 [b0, g] ⟨.no, loopAt Tryz.f5 5, pins [(14, .c (.p 1 0)), (9, .c (.v (.int .u8 (TT.chr 3)))), (99, .c (.v (.int .i64 text.length))), (100, .c (.v (.int .i64 i)))] (.vals u), [.b true 26 (TM.sc TT), .b true 53 (discSC d s)]⟩ := by
    intro hon h200 hpr hno h10 h13 g b0 e
    induction e with
    | zero =>
      intro i he hi d s w2 L2 N hf hS u
      obtain rfl : i = text.length := by omega
      rw [Nat.sub_self, List.take_zero] at hS
      refine Hs.run0 300 (fun _ => by kernel_rfl) ?_
      refine Hs.condP ((text.length : Int) < (text.length : Int)) (by kernel_rfl) (fun h => by omega) (fun _ => ?_)
      refine Hs.run0 300 (fun _ => by kernel_rfl) ?_
      refine Hs.bool 112 ((d.line.length : Int) == 0) (by kernel_rfl) (fun _ => ?_) (fun h => by rw [hS.line] at h; cases h)
      refine Hs.rung0 [6] 300 (fun _ => by kernel_rfl) ?_
      refine Hs.bool 119 (d.col == 0) (by kernel_rfl) (fun _ => ?_) (fun h => by rw [hS.col] at h; cases h)
      refine Hs.rung0 [6, 13] 300 (fun _ => by kernel_rfl) ?_
      refine Hs.bool 126 (d.frm == 0) (by kernel_rfl) (fun _ => ?_) (fun h => by rw [hS.frm] at h; cases h)
      refine Hs.rung0 [6, 13, 20] 300 (fun _ => by kernel_rfl) ?_
      exact Hs.ret (v := .bool ((d.lines.length : Int) == 0)) Tryz.func5 (by kernel_rfl) fun w' H => ⟨by rw [hS.lines]; rfl, N.only H⟩
    | succ e ihe =>
      intro i he hi d s w2 L2 N hf hS u
      have hil : i < text.length := by omega
      obtain ⟨x, hx⟩ : ∃ x, text[text.length - (i + 1)]? = some x := ⟨_, List.getElem?_eq_getElem (by omega)⟩
      have htk : text.take (text.length - i) = text.take (text.length - (i + 1)) ++ [x] := by
        rw [show text.length - i = text.length - (i + 1) + 1 by omega, List.take_add_one, hx]; rfl
      rw [htk] at hS
      have r1 := erase_in (d := d) hE hS.t hS.next (hec hon) hno h13 h10
      have r2 := hS.erase hE (c := (TT.chr 3)) (fun y hy => hpr y (by
        rw [← htk] at hy
        exact List.mem_of_mem_take hy)) (by rw [List.length_take]; omega) (by omega)
      rw [← r1] at r2
      have hin := fun w' hD => input_any d s g (TT.chr 3) w' hD hf
      have hf2 : Few (inputD d (TT.chr 3)).1 := inputD_few hf
      have hih := fun s w2 L2 N u => ihe (i + 1) (by omega) (by omega) (inputD d (TT.chr 3)).1 s w2 L2 N hf2 (by rw [show text.length + 3 * (i + 1) = text.length + 3 * i + 3 by omega]; exact r2) u
      generalize (inputD d (TT.chr 3)).1 = d2 at hin hih
      generalize (inputD d (TT.chr 3)).2 = sg at hin
      refine Hs.run0 300 (fun _ => by kernel_rfl) ?_
      refine Hs.condP ((i : Int) < (text.length : Int)) (by kernel_rfl) (fun _ => ?_) (fun h => by omega)
      refine Hs.run0 300 (fun _ => by kernel_rfl) ?_
      refine Hs.callNI (s := s) (d := d) (d' := d2) (l := sg) 1 sg.length rfl N rfl (by kernel_rfl) (fun w' H hD => hin w' hD) (by kernel_rfl) (by kernel_rfl) (fun _ => (by kernel_rfl)) fun s2 A3 w3 L3 N3 => ?_
      refine Hs.run0 300 (fun _ => by kernel_rfl) ?_
      refine Hs.slot 100 (.c (.v (.int .i64 (i + 1 : Nat)))) rfl ((by kernel_rfl : _ = Value.int .i64 (IntKind.i64.wrap ((i : Int) + 1))).trans (wrap_nextJ hlen)) ?_
      refine Hs.loop (by kernel_rfl) ?_
      exact Hs.goto (loopAt Tryz.f5 5) [0, 1] [.b true 26 (TM.sc TT), .b true 53 (discSC d2 s2)] [(14, .c (.p 1 0)), (9, .c (.v (.int .u8 (TT.chr 3)))), (99, .c (.v (.int .i64 text.length))), (100, .c (.v (.int .i64 (i + 1 : Nat))))] (by kernel_rfl) (by decide) (by kernel_rfl) (by kernel_rfl) (fun _ => (by kernel_rfl)) (fun u => hih s2 w3 L3 (N3.imp fun w h => ⟨h.1.1, trivial⟩) u)
  have L4 : TT.on 3 = true → text.length ≤ 200 → (∀ x ∈ text, plainB TT x = true ∧ 32 ≤ x ∧ x < 127) → noOp3 TT (TT.chr 3) 18 1 = true → ((TT.chr 3) == 10) = false → ((TT.chr 3) == 13) = false → ∀ (g b0 : Nat) (e i : Nat), text.length - i = e → i ≤ text.length → ∀ (d : DM) (s : DS) (w2 : World) (L2 : List Nat), Nx w w2 L2 (fun w => Data s d w ∧ True) → Few d → Shown d TT (text.take i) i → ∀ (u : Nat → Value), Hs Tryz.prog 5 (fun e w' => e = .returned (.bool true) ∧ Only [] w w') (Tryz.f5).ntmps w2 L2 [b0, g] ⟨.no, loopAt Tryz.f5 4, pins [(1, .c (.v (.slice A text.length cap))), (14, .c (.p 1 0)), (9, .c (.v (.int .u8 (TT.chr 3)))), (88, .c (.v (.slice A text.length cap))), (89, .c (.v (.int .i64 text.length))), (90, .c (.v (.int .i64 i)))] (.vals u), [.b true 26 (TM.sc TT), .b true 53 (discSC d s)]⟩ := by
    intro hon h200 hpl hno h10 h13 g b0 e
    induction e with
    | zero =>
      intro i he hi d s w2 L2 N hf hS u
      obtain rfl : i = text.length := by omega
      refine Hs.run0 300 (fun _ => by kernel_rfl) ?_
      refine Hs.condP ((text.length : Int) < (text.length : Int)) (by kernel_rfl) (fun h => by omega) (fun _ => ?_)
      refine Hs.run0 300 (fun _ => by kernel_rfl) ?_
      refine Hs.loop (by kernel_rfl) ?_
      exact Hs.goto (loopAt Tryz.f5 5) [0, 1] [.b true 26 (TM.sc TT), .b true 53 (discSC d s)] [(14, .c (.p 1 0)), (9, .c (.v (.int .u8 (TT.chr 3)))), (99, .c (.v (.int .i64 text.length))), (100, .c (.v (.int .i64 (0 : Nat))))] (by kernel_rfl) (by decide) (by kernel_rfl) (by kernel_rfl) (fun _ => (by kernel_rfl)) (fun u => L5 hon h200 (fun x hx => (hpl x hx).2) hno h10 h13 g b0 text.length 0 rfl (by omega) d s w2 L2 N hf (by rw [Nat.sub_zero, Nat.mul_zero, Nat.add_zero]; exact hS) u)
    | succ e ihe =>
      intro i he hi d s w2 L2 N hf hS u
      have hil : i < text.length := by omega
      obtain ⟨x, hx⟩ : ∃ x, text[i]? = some x := ⟨_, List.getElem?_eq_getElem hil⟩
      have htk : text.take (i + 1) = text.take i ++ [x] := by rw [List.take_add_one, hx]; rfl
      obtain ⟨ab, aoff, hA, _, _⟩ := hb.1 (by omega)
      obtain ⟨hpx, hrx⟩ := hpl x (List.mem_of_getElem? hx)
      have hop : noOp TT x 18 1 = true ∧ (x == 13) = false ∧ (x == 10) = false := by
        unfold plainB at hpx
        simp only [Bool.and_eq_true, Bool.not_eq_true'] at hpx
        exact ⟨hpx.2.2, hpx.2.1, hpx.1⟩
      have r1 := typed_in (d := d) (c := x) hS.next (by rw [hS.t]; exact hE.h51) (by rw [hS.t]; exact hE.h33) (by rw [hS.t]; exact hE.h37) (by rw [hS.t]; exact hE.h39) (.inr hop.2.2) (by rw [hS.t]; exact hop.1) hop.2.1
      rw [hop.2.2] at r1
      have r2 := hS.char hE hrx (by rw [List.length_take]; omega) (by omega)
      have r3 : (inputD d x).1 = marksD (plainD { d with idle := 0 } x) := by rw [r1]; rfl
      rw [← r3, ← htk] at r2
      have hin := fun w' hD => input_any d s g x w' hD hf
      have hf2 : Few (inputD d x).1 := inputD_few hf
      have hih := fun s w2 L2 N u => ihe (i + 1) (by omega) (by omega) (inputD d x).1 s w2 L2 N hf2 r2 u
      clear r1 r3
      generalize (inputD d x).1 = d2 at hin hih
      generalize (inputD d x).2 = sg at hin
      rw [hA] at hih ⊢
      refine Hs.run0 300 (fun _ => by kernel_rfl) ?_
      refine Hs.condP ((i : Int) < (text.length : Int)) (by kernel_rfl) (fun _ => ?_) (fun h => by omega)
      refine Hs.run0 300 (fun _ => by kernel_rfl) ?_
      refine Hs.idx (b := ab) (off := aoff) (len := text.length) (c := cap) (i := i) elemU8 hil (by kernel_rfl) ?_
      refine Hs.run0 300 (fun _ => by kernel_rfl) ?_
      refine Hs.ldc (E' := 5) (b := ab) (off := aoff + i * 1) (.int .u8 x) (by kernel_rfl) (fun w' H => u8_cell (by rw [← hA]; exact hb.1.only (N.only H)) hx) (by kernel_rfl) ?_
      refine Hs.run0 300 (fun _ => by kernel_rfl) ?_
      refine Hs.callNI (s := s) (d := d) (d' := d2) (l := sg) 1 sg.length rfl N rfl (by kernel_rfl) (fun w' H hD => hin w' hD) (by kernel_rfl) (by kernel_rfl) (fun _ => (by kernel_rfl)) fun s2 A3 w3 L3 N3 => ?_
      refine Hs.run0 300 (fun _ => by kernel_rfl) ?_
      refine Hs.slot 90 (.c (.v (.int .i64 (i + 1 : Nat)))) rfl ((by kernel_rfl : _ = Value.int .i64 (IntKind.i64.wrap ((i : Int) + 1))).trans (wrap_nextJ hlen)) ?_
      refine Hs.loop (by kernel_rfl) ?_
      exact Hs.goto (loopAt Tryz.f5 4) [0, 1] [.b true 26 (TM.sc TT), .b true 53 (discSC d2 s2)] [(1, .c (.v (.slice (some ⟨ab, aoff, none⟩) text.length cap))), (14, .c (.p 1 0)), (9, .c (.v (.int .u8 (TT.chr 3)))), (88, .c (.v (.slice (some ⟨ab, aoff, none⟩) text.length cap))), (89, .c (.v (.int .i64 text.length))), (90, .c (.v (.int .i64 (i + 1 : Nat))))] (by kernel_rfl) (by decide) (by kernel_rfl) (by kernel_rfl) (fun _ => (by kernel_rfl)) (fun u => hih s2 w3 L3 (N3.imp fun w h => ⟨h.1.1, trivial⟩) u)
  have L3 : TT.on 3 = true → text.length ≤ 200 → noOp3 TT (TT.chr 3) 18 1 = true → ((TT.chr 3) == 10) = false → ((TT.chr 3) == 13) = false → ∀ (b0 : Nat) (e i : Nat), text.length - i = e → i ≤ text.length → (∀ x ∈ text.take i, plainB TT x = true ∧ 32 ≤ x ∧ x < 127) → ∀ (u : Nat → Value), Hs Tryz.prog 5 (fun e w' => e = .returned (.bool true) ∧ Only [] w w') (Tryz.f5).ntmps w [] [b0] ⟨.no, loopAt Tryz.f5 3, pins [(1, .c (.v (.slice A text.length cap))), (2, .c (.p 0 0)), (9, .c (.v (.int .u8 (TT.chr 3)))), (67, .c (.v (.slice A text.length cap))), (68, .c (.v (.int .i64 text.length))), (69, .c (.v (.int .i64 i)))] (.vals u), [.b true 26 (TM.sc TT)]⟩ := by
    intro hon h200 hno h10 h13 b0 e
    induction e with
    | zero =>
      intro i he hi hgood u
      obtain rfl : i = text.length := by omega
      rw [List.take_length] at hgood
      refine Hs.run0 300 (fun _ => by kernel_rfl) ?_
      refine Hs.condP ((text.length : Int) < (text.length : Int)) (by kernel_rfl) (fun h => by omega) (fun _ => ?_)
      refine Hs.run0 300 (fun _ => by kernel_rfl) ?_
      refine Hs.callB 1 (fun _ => discSC (newD TT) nilS) (Nx.start w) (fun w' H => new16_any TT w') (fun β x => rfl) (fun x j => disc_wf _ _ _) (by kernel_rfl) (by kernel_rfl) (by kernel_rfl) fun g _ w3 L3 N3 => ?_
      refine Hs.run0 300 (fun _ => by kernel_rfl) ?_
      refine Hs.loop (by kernel_rfl) ?_
      exact Hs.goto (loopAt Tryz.f5 4) [0, 1] [.b true 26 (TM.sc TT), .b true 53 (discSC (newD TT) nilS)] [(1, .c (.v (.slice A text.length cap))), (14, .c (.p 1 0)), (9, .c (.v (.int .u8 (TT.chr 3)))), (88, .c (.v (.slice A text.length cap))), (89, .c (.v (.int .i64 text.length))), (90, .c (.v (.int .i64 (0 : Nat))))] (by kernel_rfl) (by decide) (by kernel_rfl) (by kernel_rfl) (fun _ => (by kernel_rfl)) (fun u => L4 hon h200 hgood hno h10 h13 g b0 text.length 0 rfl (by omega) (newD TT) nilS w3 L3 (N3.imp fun w h => ⟨data_new TT w, trivial⟩) (few_new TT) ⟨rfl, rfl, rfl, rfl, rfl, rfl, rfl, rfl, Nat.le_refl _⟩ u)
    | succ e ihe =>
      intro i he hi hgood u
      have hil : i < text.length := by omega
      obtain ⟨x, hx⟩ : ∃ x, text[i]? = some x := ⟨_, List.getElem?_eq_getElem hil⟩
      have htk : text.take (i + 1) = text.take i ++ [x] := by rw [List.take_add_one, hx]; rfl
      obtain ⟨ab, aoff, hA, _, _⟩ := hb.1 (by omega)
      have hih := fun (hgx : plainB TT x = true ∧ 32 ≤ x ∧ x < 127) u => ihe (i + 1) (by omega) (by omega) (fun y hy => by
        rw [htk] at hy
        rcases List.mem_append.1 hy with h | h
        · exact hgood y h
        · rw [List.mem_singleton.1 h]; exact hgx) u
      rw [hA] at hih ⊢
      refine Hs.run0 300 (fun _ => by kernel_rfl) ?_
      refine Hs.condP ((i : Int) < (text.length : Int)) (by kernel_rfl) (fun _ => ?_) (fun h => by omega)
      refine Hs.run0 300 (fun _ => by kernel_rfl) ?_
      refine Hs.idx (b := ab) (off := aoff) (len := text.length) (c := cap) (i := i) elemU8 hil (by kernel_rfl) ?_
      refine Hs.run0 300 (fun _ => by kernel_rfl) ?_
      refine Hs.ldc (E' := 5) (b := ab) (off := aoff + i * 1) (.int .u8 x) (by kernel_rfl) (fun w' H => u8_cell (by rw [← hA]; exact hb.1.only H.only) hx) (by kernel_rfl) ?_
      refine Hs.run0 300 (fun _ => by kernel_rfl) ?_
      refine Hs.callV (fun w' H => plain16_any TT x w') (by kernel_rfl) ?_
      refine Hs.run0 300 (fun _ => by kernel_rfl) ?_
      refine Hs.bool 77 (!plainB TT x) (by kernel_rfl) (fun h => ?_) (fun h => ?_)
      · refine Hs.rung0 [4, 8] 300 (fun _ => by kernel_rfl) ?_
        refine Hs.condT (by kernel_rfl) ?_
        refine Hs.run0 300 (fun _ => by kernel_rfl) ?_
        exact Hs.ret (v := .bool true) Tryz.func5 (by kernel_rfl) fun w' H => ⟨rfl, H.only⟩
      refine Hs.rung0 [4] 300 (fun _ => by kernel_rfl) ?_
      refine Hs.bool 81 (decide (x < 32)) (by kernel_rfl) (fun h2 => ?_) (fun h2 => ?_)
      · refine Hs.rung0 [4, 8] 300 (fun _ => by kernel_rfl) ?_
        refine Hs.condT (by kernel_rfl) ?_
        refine Hs.run0 300 (fun _ => by kernel_rfl) ?_
        exact Hs.ret (v := .bool true) Tryz.func5 (by kernel_rfl) fun w' H => ⟨rfl, H.only⟩
      refine Hs.rung0 [4, 8] 300 (fun _ => by kernel_rfl) ?_
      refine Hs.condP (x ≥ 127) (by kernel_rfl) (fun h3 => ?_) (fun h3 => ?_)
      · refine Hs.run0 300 (fun _ => by kernel_rfl) ?_
        exact Hs.ret (v := .bool true) Tryz.func5 (by kernel_rfl) fun w' H => ⟨rfl, H.only⟩
      refine Hs.run0 300 (fun _ => by kernel_rfl) ?_
      refine Hs.slot 69 (.c (.v (.int .i64 (i + 1 : Nat)))) rfl ((by kernel_rfl : _ = Value.int .i64 (IntKind.i64.wrap ((i : Int) + 1))).trans (wrap_nextJ hlen)) ?_
      refine Hs.loop (by kernel_rfl) ?_
      have h2' : ¬ x < 32 := by simpa using h2
      exact Hs.goto (loopAt Tryz.f5 3) [0] [.b true 26 (TM.sc TT)] [(1, .c (.v (.slice (some ⟨ab, aoff, none⟩) text.length cap))), (2, .c (.p 0 0)), (9, .c (.v (.int .u8 (TT.chr 3)))), (67, .c (.v (.slice (some ⟨ab, aoff, none⟩) text.length cap))), (68, .c (.v (.int .i64 text.length))), (69, .c (.v (.int .i64 (i + 1 : Nat))))] (by kernel_rfl) (by decide) (by kernel_rfl) (by kernel_rfl) (fun _ => (by kernel_rfl)) (hih ⟨by simpa using h, by omega, by omega⟩)
  have L2 : TT.on 3 = true → text.length ≤ 200 → ((TT.chr 3) == 10) = false → ((TT.chr 3) == 13) = false → ∀ (b0 : Nat) (q i : Nat), 1 ≤ i → i + q = 19 → (noOp3 TT (TT.chr 3) q i = true → noOp3 TT (TT.chr 3) 18 1 = true) → ∀ (u : Nat → Value), Hs Tryz.prog 5 (fun e w' => e = .returned (.bool true) ∧ Only [] w w') (Tryz.f5).ntmps w [] [b0] ⟨.no, loopAt Tryz.f5 2, pins [(1, .c (.v (.slice A text.length cap))), (2, .c (.p 0 0)), (9, .c (.v (.int .u8 (TT.chr 3)))), (11, .c (.v (.int .i64 i)))] (.vals u), [.b true 26 (TM.sc TT)]⟩ := by
    intro hon h200 h10 h13 b0 q
    induction q with
    | zero =>
      intro i h1 h2 hno u
      obtain rfl : i = 19 := by omega
      refine Hs.run0 300 (fun _ => by kernel_rfl) ?_
      refine Hs.condF (by kernel_rfl) ?_
      refine Hs.run0 300 (fun _ => by kernel_rfl) ?_
      refine Hs.loop (by kernel_rfl) ?_
      exact Hs.goto (loopAt Tryz.f5 3) [0] [.b true 26 (TM.sc TT)] [(1, .c (.v (.slice A text.length cap))), (2, .c (.p 0 0)), (9, .c (.v (.int .u8 (TT.chr 3)))), (67, .c (.v (.slice A text.length cap))), (68, .c (.v (.int .i64 text.length))), (69, .c (.v (.int .i64 (0 : Nat))))] (by kernel_rfl) (by decide) (by kernel_rfl) (by kernel_rfl) (fun _ => (by kernel_rfl)) (fun u => L3 hon h200 (hno rfl) h10 h13 b0 text.length 0 rfl (by omega) (fun x hx => by cases hx) u)
    | succ q ih =>
      intro i h1 h2 hno u
      refine Hs.run0 300 (fun _ => by kernel_rfl) ?_
      refine Hs.condP ((i : Int) ≤ 18) (by kernel_rfl) (fun _ => ?_) (fun h => by omega)
      refine Hs.run0 300 (fun _ => by kernel_rfl) ?_
      refine Hs.bool 61 ((i : Int) != 3) (by kernel_rfl) (fun h3 => ?_) (fun h3 => ?_)
      · have h3' : (i == 3) = false := by
          simp only [bne_iff_ne, ne_eq] at h3
          simp; omega
        refine Hs.rung0 [2] 300 (fun _ => by kernel_rfl) ?_
        refine Hs.callV (fun w' H => is_any TT i (TT.chr 3) h1 (by omega) w') (by kernel_rfl) ?_
        refine Hs.rung0 [2] 300 (fun _ => by kernel_rfl) ?_
        refine Hs.cond (TT.is i (TT.chr 3)) (by kernel_rfl) (fun h => ?_) (fun h => ?_)
        · refine Hs.run0 300 (fun _ => by kernel_rfl) ?_
          exact Hs.ret (v := .bool true) Tryz.func5 (by kernel_rfl) fun w' H => ⟨rfl, H.only⟩
        · have hih := fun u => ih (i + 1) (by omega) (by omega) (fun h4 => hno (by unfold noOp3; rw [h3', h, h4]; rfl)) u
          refine Hs.run0 300 (fun _ => by kernel_rfl) ?_
          refine Hs.slot 11 (.c (.v (.int .i64 (i + 1 : Nat)))) rfl ((by kernel_rfl : _ = Value.int .i64 (IntKind.i64.wrap ((i : Int) + 1))).trans (by rw [IntWalk.i64_in _ (by omega)]; show Value.int .i64 ((i : Int) + 1) = Value.int .i64 ((i + 1 : Nat) : Int); rfl)) ?_
          refine Hs.loop (by kernel_rfl) ?_
          exact Hs.goto (loopAt Tryz.f5 2) [0] [.b true 26 (TM.sc TT)] [(1, .c (.v (.slice A text.length cap))), (2, .c (.p 0 0)), (9, .c (.v (.int .u8 (TT.chr 3)))), (11, .c (.v (.int .i64 (i + 1 : Nat))))] (by kernel_rfl) (by decide) (by kernel_rfl) (by kernel_rfl) (fun _ => (by kernel_rfl)) hih
      · have h3' : (i == 3) = true := by
          simp only [bne_eq_false_iff_eq] at h3
          simp; omega
        have hih := fun u => ih (i + 1) (by omega) (by omega) (fun h4 => hno (by unfold noOp3; rw [h3', h4]; rfl)) u
        refine Hs.rung0 [2] 300 (fun _ => by kernel_rfl) ?_
        refine Hs.condF (by kernel_rfl) ?_
        refine Hs.run0 300 (fun _ => by kernel_rfl) ?_
        refine Hs.slot 11 (.c (.v (.int .i64 (i + 1 : Nat)))) rfl ((by kernel_rfl : _ = Value.int .i64 (IntKind.i64.wrap ((i : Int) + 1))).trans (by rw [IntWalk.i64_in _ (by omega)]; show Value.int .i64 ((i : Int) + 1) = Value.int .i64 ((i + 1 : Nat) : Int); rfl)) ?_
        refine Hs.loop (by kernel_rfl) ?_
        exact Hs.goto (loopAt Tryz.f5 2) [0] [.b true 26 (TM.sc TT)] [(1, .c (.v (.slice A text.length cap))), (2, .c (.p 0 0)), (9, .c (.v (.int .u8 (TT.chr 3)))), (11, .c (.v (.int .i64 (i + 1 : Nat))))] (by kernel_rfl) (by decide) (by kernel_rfl) (by kernel_rfl) (fun _ => (by kernel_rfl)) hih
  refine Hs.enter Tryz.func5 [] [] [] [.g t.sc, .c (.v (.slice A text.length cap))] (Mem.start0 w) (by kernel_rfl) (by kernel_rfl) ?_
  refine Hs.run1 300 (fun _ => by kernel_rfl) fun b0 => ?_
  refine Hs.callV (fun w' H => alive16_any w') (by kernel_rfl) ?_
  refine Hs.run0 300 (fun _ => by kernel_rfl) ?_
  refine Hs.condF (by kernel_rfl) ?_
  refine Hs.run0 300 (fun _ => by kernel_rfl) ?_
  refine Hs.loop (by kernel_rfl) ?_
  refine Hs.goto (loopAt Tryz.f5 0) [0] [.b true 26 (TM.sc t)] [(1, .c (.v (.slice A text.length cap))), (2, .c (.p 0 0)), (19, .c (.v (.agg #[.int .i64 51, .int .i64 53, .int .i64 54, .int .i64 60]))), (20, .c (.v (.int .i64 0)))] (by kernel_rfl) (by decide) (by kernel_rfl) (by kernel_rfl) (fun _ => (by kernel_rfl)) (fun u => ?_)
  refine Hs.run0 300 (fun _ => by kernel_rfl) ?_
  refine Hs.condT (by kernel_rfl) ?_
  refine Hs.run0 300 (fun _ => by kernel_rfl) ?_
  refine Hs.callV (fun w' H => set_any t 51 true w') (by kernel_rfl) ?_
  refine Hs.run0 300 (fun _ => by kernel_rfl) ?_
  refine Hs.loop (by kernel_rfl) ?_
  refine Hs.goto (loopAt Tryz.f5 0) [0] [.b true 26 (TM.sc (t.set 51 true))] [(1, .c (.v (.slice A text.length cap))), (2, .c (.p 0 0)), (19, .c (.v (.agg #[.int .i64 51, .int .i64 53, .int .i64 54, .int .i64 60]))), (20, .c (.v (.int .i64 1)))] (by kernel_rfl) (by decide) (by kernel_rfl) (by kernel_rfl) (fun _ => (by kernel_rfl)) (fun u => ?_)
  refine Hs.run0 300 (fun _ => by kernel_rfl) ?_
  refine Hs.condT (by kernel_rfl) ?_
  refine Hs.run0 300 (fun _ => by kernel_rfl) ?_
  refine Hs.callV (fun w' H => set_any (t.set 51 true) 53 true w') (by kernel_rfl) ?_
  refine Hs.run0 300 (fun _ => by kernel_rfl) ?_
  refine Hs.loop (by kernel_rfl) ?_
  refine Hs.goto (loopAt Tryz.f5 0) [0] [.b true 26 (TM.sc ((t.set 51 true).set 53 true))] [(1, .c (.v (.slice A text.length cap))), (2, .c (.p 0 0)), (19, .c (.v (.agg #[.int .i64 51, .int .i64 53, .int .i64 54, .int .i64 60]))), (20, .c (.v (.int .i64 2)))] (by kernel_rfl) (by decide) (by kernel_rfl) (by kernel_rfl) (fun _ => (by kernel_rfl)) (fun u => ?_)
  refine Hs.run0 300 (fun _ => by kernel_rfl) ?_
  refine Hs.condT (by kernel_rfl) ?_
  refine Hs.run0 300 (fun _ => by kernel_rfl) ?_
  refine Hs.callV (fun w' H => set_any ((t.set 51 true).set 53 true) 54 true w') (by kernel_rfl) ?_
  refine Hs.run0 300 (fun _ => by kernel_rfl) ?_
  refine Hs.loop (by kernel_rfl) ?_
  refine Hs.goto (loopAt Tryz.f5 0) [0] [.b true 26 (TM.sc (((t.set 51 true).set 53 true).set 54 true))] [(1, .c (.v (.slice A text.length cap))), (2, .c (.p 0 0)), (19, .c (.v (.agg #[.int .i64 51, .int .i64 53, .int .i64 54, .int .i64 60]))), (20, .c (.v (.int .i64 3)))] (by kernel_rfl) (by decide) (by kernel_rfl) (by kernel_rfl) (fun _ => (by kernel_rfl)) (fun u => ?_)
  refine Hs.run0 300 (fun _ => by kernel_rfl) ?_
  refine Hs.condT (by kernel_rfl) ?_
  refine Hs.run0 300 (fun _ => by kernel_rfl) ?_
  refine Hs.callV (fun w' H => set_any (((t.set 51 true).set 53 true).set 54 true) 60 true w') (by kernel_rfl) ?_
  refine Hs.run0 300 (fun _ => by kernel_rfl) ?_
  refine Hs.loop (by kernel_rfl) ?_
  refine Hs.goto (loopAt Tryz.f5 0) [0] [.b true 26 (TM.sc ((((t.set 51 true).set 53 true).set 54 true).set 60 true))] [(1, .c (.v (.slice A text.length cap))), (2, .c (.p 0 0)), (19, .c (.v (.agg #[.int .i64 51, .int .i64 53, .int .i64 54, .int .i64 60]))), (20, .c (.v (.int .i64 4)))] (by kernel_rfl) (by decide) (by kernel_rfl) (by kernel_rfl) (fun _ => (by kernel_rfl)) (fun u => ?_)
  refine Hs.run0 300 (fun _ => by kernel_rfl) ?_
  refine Hs.condF (by kernel_rfl) ?_
  refine Hs.run0 300 (fun _ => by kernel_rfl) ?_
  refine Hs.loop (by kernel_rfl) ?_
  refine Hs.goto (loopAt Tryz.f5 1) [0] [.b true 26 (TM.sc ((((t.set 51 true).set 53 true).set 54 true).set 60 true))] [(1, .c (.v (.slice A text.length cap))), (2, .c (.p 0 0)), (27, .c (.v (.agg #[.int .i64 33, .int .i64 37, .int .i64 31, .int .i64 71, .int .i64 42, .int .i64 39]))), (28, .c (.v (.int .i64 0)))] (by kernel_rfl) (by decide) (by kernel_rfl) (by kernel_rfl) (fun _ => (by kernel_rfl)) (fun u => ?_)
  refine Hs.run0 300 (fun _ => by kernel_rfl) ?_
  refine Hs.condT (by kernel_rfl) ?_
  refine Hs.run0 300 (fun _ => by kernel_rfl) ?_
  refine Hs.callV (fun w' H => set_any ((((t.set 51 true).set 53 true).set 54 true).set 60 true) 33 false w') (by kernel_rfl) ?_
  refine Hs.run0 300 (fun _ => by kernel_rfl) ?_
  refine Hs.loop (by kernel_rfl) ?_
  refine Hs.goto (loopAt Tryz.f5 1) [0] [.b true 26 (TM.sc (((((t.set 51 true).set 53 true).set 54 true).set 60 true).set 33 false))] [(1, .c (.v (.slice A text.length cap))), (2, .c (.p 0 0)), (27, .c (.v (.agg #[.int .i64 33, .int .i64 37, .int .i64 31, .int .i64 71, .int .i64 42, .int .i64 39]))), (28, .c (.v (.int .i64 1)))] (by kernel_rfl) (by decide) (by kernel_rfl) (by kernel_rfl) (fun _ => (by kernel_rfl)) (fun u => ?_)
  refine Hs.run0 300 (fun _ => by kernel_rfl) ?_
  refine Hs.condT (by kernel_rfl) ?_
  refine Hs.run0 300 (fun _ => by kernel_rfl) ?_
  refine Hs.callV (fun w' H => set_any (((((t.set 51 true).set 53 true).set 54 true).set 60 true).set 33 false) 37 false w') (by kernel_rfl) ?_
  refine Hs.run0 300 (fun _ => by kernel_rfl) ?_
  refine Hs.loop (by kernel_rfl) ?_
  refine Hs.goto (loopAt Tryz.f5 1) [0] [.b true 26 (TM.sc ((((((t.set 51 true).set 53 true).set 54 true).set 60 true).set 33 false).set 37 false))] [(1, .c (.v (.slice A text.length cap))), (2, .c (.p 0 0)), (27, .c (.v (.agg #[.int .i64 33, .int .i64 37, .int .i64 31, .int .i64 71, .int .i64 42, .int .i64 39]))), (28, .c (.v (.int .i64 2)))] (by kernel_rfl) (by decide) (by kernel_rfl) (by kernel_rfl) (fun _ => (by kernel_rfl)) (fun u => ?_)
  refine Hs.run0 300 (fun _ => by kernel_rfl) ?_
  refine Hs.condT (by kernel_rfl) ?_
  refine Hs.run0 300 (fun _ => by kernel_rfl) ?_
  refine Hs.callV (fun w' H => set_any ((((((t.set 51 true).set 53 true).set 54 true).set 60 true).set 33 false).set 37 false) 31 false w') (by kernel_rfl) ?_
  refine Hs.run0 300 (fun _ => by kernel_rfl) ?_
  refine Hs.loop (by kernel_rfl) ?_
  refine Hs.goto (loopAt Tryz.f5 1) [0] [.b true 26 (TM.sc (((((((t.set 51 true).set 53 true).set 54 true).set 60 true).set 33 false).set 37 false).set 31 false))] [(1, .c (.v (.slice A text.length cap))), (2, .c (.p 0 0)), (27, .c (.v (.agg #[.int .i64 33, .int .i64 37, .int .i64 31, .int .i64 71, .int .i64 42, .int .i64 39]))), (28, .c (.v (.int .i64 3)))] (by kernel_rfl) (by decide) (by kernel_rfl) (by kernel_rfl) (fun _ => (by kernel_rfl)) (fun u => ?_)
  refine Hs.run0 300 (fun _ => by kernel_rfl) ?_
  refine Hs.condT (by kernel_rfl) ?_
  refine Hs.run0 300 (fun _ => by kernel_rfl) ?_
  refine Hs.callV (fun w' H => set_any (((((((t.set 51 true).set 53 true).set 54 true).set 60 true).set 33 false).set 37 false).set 31 false) 71 false w') (by kernel_rfl) ?_
  refine Hs.run0 300 (fun _ => by kernel_rfl) ?_
  refine Hs.loop (by kernel_rfl) ?_
  refine Hs.goto (loopAt Tryz.f5 1) [0] [.b true 26 (TM.sc ((((((((t.set 51 true).set 53 true).set 54 true).set 60 true).set 33 false).set 37 false).set 31 false).set 71 false))] [(1, .c (.v (.slice A text.length cap))), (2, .c (.p 0 0)), (27, .c (.v (.agg #[.int .i64 33, .int .i64 37, .int .i64 31, .int .i64 71, .int .i64 42, .int .i64 39]))), (28, .c (.v (.int .i64 4)))] (by kernel_rfl) (by decide) (by kernel_rfl) (by kernel_rfl) (fun _ => (by kernel_rfl)) (fun u => ?_)
  refine Hs.run0 300 (fun _ => by kernel_rfl) ?_
  refine Hs.condT (by kernel_rfl) ?_
  refine Hs.run0 300 (fun _ => by kernel_rfl) ?_
  refine Hs.callV (fun w' H => set_any ((((((((t.set 51 true).set 53 true).set 54 true).set 60 true).set 33 false).set 37 false).set 31 false).set 71 false) 42 false w') (by kernel_rfl) ?_
  refine Hs.run0 300 (fun _ => by kernel_rfl) ?_
  refine Hs.loop (by kernel_rfl) ?_
  refine Hs.goto (loopAt Tryz.f5 1) [0] [.b true 26 (TM.sc (((((((((t.set 51 true).set 53 true).set 54 true).set 60 true).set 33 false).set 37 false).set 31 false).set 71 false).set 42 false))] [(1, .c (.v (.slice A text.length cap))), (2, .c (.p 0 0)), (27, .c (.v (.agg #[.int .i64 33, .int .i64 37, .int .i64 31, .int .i64 71, .int .i64 42, .int .i64 39]))), (28, .c (.v (.int .i64 5)))] (by kernel_rfl) (by decide) (by kernel_rfl) (by kernel_rfl) (fun _ => (by kernel_rfl)) (fun u => ?_)
  refine Hs.run0 300 (fun _ => by kernel_rfl) ?_
  refine Hs.condT (by kernel_rfl) ?_
  refine Hs.run0 300 (fun _ => by kernel_rfl) ?_
  refine Hs.callV (fun w' H => set_any (((((((((t.set 51 true).set 53 true).set 54 true).set 60 true).set 33 false).set 37 false).set 31 false).set 71 false).set 42 false) 39 false w') (by kernel_rfl) ?_
  refine Hs.run0 300 (fun _ => by kernel_rfl) ?_
  refine Hs.loop (by kernel_rfl) ?_
  refine Hs.goto (loopAt Tryz.f5 1) [0] [.b true 26 (TM.sc ((((((((((t.set 51 true).set 53 true).set 54 true).set 60 true).set 33 false).set 37 false).set 31 false).set 71 false).set 42 false).set 39 false))] [(1, .c (.v (.slice A text.length cap))), (2, .c (.p 0 0)), (27, .c (.v (.agg #[.int .i64 33, .int .i64 37, .int .i64 31, .int .i64 71, .int .i64 42, .int .i64 39]))), (28, .c (.v (.int .i64 6)))] (by kernel_rfl) (by decide) (by kernel_rfl) (by kernel_rfl) (fun _ => (by kernel_rfl)) (fun u => ?_)
  refine Hs.run0 300 (fun _ => by kernel_rfl) ?_
  refine Hs.condF (by kernel_rfl) ?_
  refine Hs.run0 300 (fun _ => by kernel_rfl) ?_
  rw [show ((((((((((t.set 51 true).set 53 true).set 54 true).set 60 true).set 33 false).set 37 false).set 31 false).set 71 false).set 42 false).set 39 false) = TT from hTT.symm]
  refine Hs.callV (fun w' H => char_any TT 3 (by decide) (by decide) w') (by kernel_rfl) ?_
  refine Hs.run0 300 (fun _ => by kernel_rfl) ?_
  refine Hs.bool 42 (!TT.on 3) (by kernel_rfl) (fun h => ?_) (fun h => ?_)
  · refine Hs.rung0 [2, 7, 11] 300 (fun _ => by kernel_rfl) ?_
    refine Hs.condT (by kernel_rfl) ?_
    refine Hs.run0 300 (fun _ => by kernel_rfl) ?_
    exact Hs.ret (v := .bool true) Tryz.func5 (by kernel_rfl) fun w' H => ⟨rfl, H.only⟩
  have hon : TT.on 3 = true := by simpa using h
  refine Hs.rung0 [2] 300 (fun _ => by kernel_rfl) ?_
  refine Hs.bool 47 (decide ((text.length : Int) > 200)) (by kernel_rfl) (fun h2 => ?_) (fun h2 => ?_)
  · refine Hs.rung0 [2, 7, 11] 300 (fun _ => by kernel_rfl) ?_
    refine Hs.condT (by kernel_rfl) ?_
    refine Hs.run0 300 (fun _ => by kernel_rfl) ?_
    exact Hs.ret (v := .bool true) Tryz.func5 (by kernel_rfl) fun w' H => ⟨rfl, H.only⟩
  have h200 : ¬ (text.length : Int) > 200 := by simpa using h2
  refine Hs.rung0 [2, 7] 300 (fun _ => by kernel_rfl) ?_
  refine Hs.bool 51 ((TT.chr 3) == 10) (by kernel_rfl) (fun h3 => ?_) (fun h3 => ?_)
  · refine Hs.rung0 [2, 7, 11] 300 (fun _ => by kernel_rfl) ?_
    refine Hs.condT (by kernel_rfl) ?_
    refine Hs.run0 300 (fun _ => by kernel_rfl) ?_
    exact Hs.ret (v := .bool true) Tryz.func5 (by kernel_rfl) fun w' H => ⟨rfl, H.only⟩
  refine Hs.rung0 [2, 7, 11] 300 (fun _ => by kernel_rfl) ?_
  refine Hs.cond ((TT.chr 3) == 13) (by kernel_rfl) (fun h4 => ?_) (fun h4 => ?_)
  · refine Hs.run0 300 (fun _ => by kernel_rfl) ?_
    exact Hs.ret (v := .bool true) Tryz.func5 (by kernel_rfl) fun w' H => ⟨rfl, H.only⟩
  refine Hs.run0 300 (fun _ => by kernel_rfl) ?_
  refine Hs.loop (by kernel_rfl) ?_
  exact Hs.goto (loopAt Tryz.f5 2) [0] [.b true 26 (TM.sc TT)] [(1, .c (.v (.slice A text.length cap))), (2, .c (.p 0 0)), (9, .c (.v (.int .u8 (TT.chr 3)))), (11, .c (.v (.int .i64 (1 : Nat))))] (by kernel_rfl) (by decide) (by kernel_rfl) (by kernel_rfl) (fun _ => (by kernel_rfl)) (fun u => L2 hon (by omega) h3 h4 b0 18 1 (by decide) rfl (fun h => h) u)
end Go.Proofs.YtjphcdphlmaopaaGreat
