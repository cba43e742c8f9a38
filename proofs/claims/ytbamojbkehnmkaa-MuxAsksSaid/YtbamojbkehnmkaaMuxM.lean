/- Layer 26: what is more than is looked at, channels for the program; no condition. -/
import Derived.Test.YtbamojbkehnmkaaMuxL
namespace Go.Proofs.Ytbamojbkehnmkaa
set_option linter.all false
set_option maxRecDepth 100000
open Go.RowKit

theorem rGreat03_any (m : MD) (w : World) : Calls Try.prog 23 #[m.val] w fun e w' => ∃ b : Bool, e = .returned (.bool b) ∧ Only [] w w' ∧ (b = false → m.data.length ≤ 100000) := by
  refine Hs.enter Try.func23 [] [] [] [.g m.sc] (Mem.start0 w) (by kernel_rfl) (by kernel_rfl) ?_
  refine Hs.run1 300 (fun _ => by kernel_rfl) fun b0 => ?_
  refine Hs.bool 7 (decide ((m.data.length : Int) > 100000)) (by kernel_rfl) (fun h => ?_) (fun h => ?_)
  · refine Hs.rung0 [4, 10] 300 (fun _ => (by kernel_rfl)) ?_
    exact Hs.ret (v := .bool true) Try.func23 (by kernel_rfl) fun w' H => ⟨true, rfl, H.only, fun h => by cases h⟩
  have h := of_decide_eq_false h
  refine Hs.rung0 [4] 300 (fun _ => (by kernel_rfl)) ?_
  refine Hs.bool 13 (decide ((m.name.size : Int) > 10000)) (by kernel_rfl) (fun h2 => ?_) (fun h2 => ?_)
  · refine Hs.rung0 [10] 300 (fun _ => (by kernel_rfl)) ?_
    exact Hs.ret (v := .bool true) Try.func23 (by kernel_rfl) fun w' H => ⟨true, rfl, H.only, fun h => by cases h⟩
  · refine Hs.rung0 [10] 300 (fun _ => (by kernel_rfl)) ?_
    exact Hs.ret (v := .bool (decide ((m.lang.size : Int) > 10000))) Try.func23 (by kernel_rfl) fun w' H => ⟨_, rfl, H.only, fun _ => by omega⟩
/-- What is looked at. -/
structure Small (n : Nat) (ms : List MD) : Prop where
  n : n ≤ 40
  len : ms.length ≤ 60
  each : ∀ m ∈ ms, m.data.length ≤ 100000
set_option maxHeartbeats 1000000 in
theorem great26_any (A : Option Addr) (n cap : Nat) (lim : Int) (dead : Bool) (ms : List MD) (B : Option Addr) (c : Nat) (w : World) (hr : RdX MD.row w B ms) (hlen : ms.length ≤ maxLen) : Calls Try.prog 7 #[.agg #[.slice A n cap, .int .u32 lim, .bool dead], .slice B ms.length c] w fun e w' => ∃ b : Bool, e = .returned (.bool b) ∧ Only [] w w' ∧ (b = false → Small n ms) := by
  refine Hs.enter Try.func7 [] [] [] [.g [.v (.slice A n cap), .v (.int .u32 lim), .v (.bool dead)], .c (.v (.slice B ms.length c))] (Mem.start0 w) (by kernel_rfl) (by kernel_rfl) ?_
  have J : ∀ (d i : Nat), ms.length - i = d → i ≤ ms.length → (∀ (j : Nat) (o : MD), j < i → ms[j]? = some o → o.data.length ≤ 100000) → ∀ (b0 : Nat) (z : Int) (u : Nat → Value), Hs Try.prog 7 (fun e w' => ∃ b : Bool, e = .returned (.bool b) ∧ Only [] w w' ∧ (b = false → Small n ms)) (Try.f7).ntmps w [] [b0] ⟨.no, loopAt Try.f7 0, pins [(1, .c (.v (.slice B ms.length c))), (2, .c (.p 0 0)), (5, .c (.v (.int .i64 z))), (8, .c (.v (.slice B ms.length c))), (9, .c (.v (.int .i64 ms.length))), (10, .c (.v (.int .i64 i)))] (.vals u), [.b true 25 [.v (.slice A n cap), .v (.int .u32 lim), .v (.bool dead)]]⟩ := by
    intro d
    induction d with
    | zero =>
      intro i hd hi hall b0 z u
      refine Hs.run0 300 (fun _ => by kernel_rfl) ?_
      refine Hs.condP ((i : Int) < (ms.length : Int)) (by kernel_rfl) (fun h => by omega) (fun h => ?_)
      refine Hs.run0 300 (fun _ => by kernel_rfl) ?_
      refine Hs.bool 27 (decide ((n : Int) > 40)) (by kernel_rfl) (fun h1 => ?_) (fun h1 => ?_)
      · refine Hs.rung0 [4, 9] 300 (fun _ => (by kernel_rfl)) ?_
        exact Hs.ret (v := .bool true) Try.func7 (by kernel_rfl) fun w' H => ⟨true, rfl, H.only, fun h => by cases h⟩
      have h1 := of_decide_eq_false h1
      refine Hs.rung0 [4] 300 (fun _ => (by kernel_rfl)) ?_
      refine Hs.bool 32 (decide ((ms.length : Int) > 60)) (by kernel_rfl) (fun h2 => ?_) (fun h2 => ?_)
      · refine Hs.rung0 [9] 300 (fun _ => (by kernel_rfl)) ?_
        exact Hs.ret (v := .bool true) Try.func7 (by kernel_rfl) fun w' H => ⟨true, rfl, H.only, fun h => by cases h⟩
      have h2 := of_decide_eq_false h2
      refine Hs.rung0 [9] 300 (fun _ => (by kernel_rfl)) ?_
      exact Hs.ret (v := .bool (decide (z > 300000))) Try.func7 (by kernel_rfl) fun w' H => ⟨_, rfl, H.only, fun _ => ⟨by omega, by omega, fun o ho => by
        obtain ⟨j, hj⟩ := List.mem_iff_getElem?.1 ho
        exact hall j o (by have := (List.getElem?_eq_some_iff.1 hj).1; omega) hj⟩⟩
    | succ d ih =>
      intro i hd hi hall b0 z u
      have hil : i < ms.length := by omega
      obtain ⟨o, hx⟩ : ∃ o, ms[i]? = some o := ⟨_, List.getElem?_eq_getElem hil⟩
      obtain ⟨b, off, hA, _, _⟩ := hr (by omega)
      subst hA
      refine Hs.run0 300 (fun _ => by kernel_rfl) ?_
      refine Hs.condP ((i : Int) < (ms.length : Int)) (by kernel_rfl) (fun h => ?_) (fun h => by omega)
      refine Hs.run0 300 (fun _ => by kernel_rfl) ?_
      refine Hs.idx (b := b) (off := off) (c := c) elemMs hil (by kernel_rfl) ?_
      refine Hs.ldx (E := 28) (b := b) (off := off) (i := i) mdr_len (.g o.sc) (by kernel_rfl) (fun w' H => hr.only H.only) hx (by kernel_rfl) (by kernel_rfl) (by kernel_rfl) (by kernel_rfl) ?_
      refine Hs.run1 300 (fun _ => by kernel_rfl) fun b1 => ?_
      refine Hs.callX (X := Bool) (fun b => .bool b) (fun b => b = false → o.data.length ≤ 100000) (fun w' H => rGreat03_any o w') (by kernel_rfl) fun g hg => ?_
      refine Hs.run0 300 (fun _ => by kernel_rfl) ?_
      refine Hs.cond g (by kernel_rfl) (fun h1 => ?_) (fun h1 => ?_)
      · refine Hs.run0 300 (fun _ => by kernel_rfl) ?_
        exact Hs.ret (v := .bool true) Try.func7 (by kernel_rfl) fun w' H => ⟨true, rfl, H.only, fun h => by cases h⟩
      · refine Hs.run0 300 (fun _ => by kernel_rfl) ?_
        refine Hs.slot 10 (.c (.v (.int .i64 (i + 1 : Nat)))) rfl ((by kernel_rfl : _ = Value.int .i64 (IntKind.i64.wrap ((i : Int) + 1))).trans (wrap_nextI hlen)) ?_
        refine Hs.loop (by kernel_rfl) ?_
        exact Hs.goto (loopAt Try.f7 0) [0] [.b true 25 [.v (.slice A n cap), .v (.int .u32 lim), .v (.bool dead)]] [(1, .c (.v (.slice (some ⟨b, off, none⟩) ms.length c))), (2, .c (.p 0 0)), (5, .c (.v (.int .i64 (IntKind.i64.wrap (z + (if (100000 : Int) < (o.data.length : Int) then 100000 else (o.data.length : Int))))))), (8, .c (.v (.slice (some ⟨b, off, none⟩) ms.length c))), (9, .c (.v (.int .i64 ms.length))), (10, .c (.v (.int .i64 (i + 1 : Nat))))] (by kernel_rfl) (by decide) (by kernel_rfl) (by kernel_rfl) (fun _ => (by kernel_rfl)) (fun u => ih (i + 1) (by omega) (by omega) (fun j o' hj ho' => by
          rcases Nat.lt_or_ge j i with h2 | h2
          · exact hall j o' h2 ho'
          · obtain rfl : j = i := by omega
            rw [hx] at ho'
            injection ho' with ho'
            subst ho'
            exact hg h1) b0 _ u)
  refine Hs.run1 300 (fun _ => by kernel_rfl) fun b0 => ?_
  refine Hs.loop (by kernel_rfl) ?_
  exact Hs.goto (loopAt Try.f7 0) [0] [.b true 25 [.v (.slice A n cap), .v (.int .u32 lim), .v (.bool dead)]] [(1, .c (.v (.slice B ms.length c))), (2, .c (.p 0 0)), (5, .c (.v (.int .i64 0))), (8, .c (.v (.slice B ms.length c))), (9, .c (.v (.int .i64 ms.length))), (10, .c (.v (.int .i64 (0 : Nat))))] (by kernel_rfl) (by decide) (by kernel_rfl) (by kernel_rfl) (fun _ => (by kernel_rfl)) (fun u => J _ 0 rfl (by omega) (fun j o hj => by omega) b0 0 u)
theorem to25_any (c : CH) (w : World) : Calls Try.prog 19 #[c.val] w fun e w' => e = .returned c.val ∧ Only [] w w' := by
  refine Hs.enter Try.func19 [] [] [] [.g c.sc] (Mem.start0 w) (by kernel_rfl) (by kernel_rfl) ?_
  refine Hs.run2 300 (fun _ => by kernel_rfl) fun b0 b1 => ?_
  exact Hs.ret (v := c.val) Try.func19 (by kernel_rfl) fun w' H => ⟨rfl, H.only⟩
theorem elemLc : ElemT Try.prog 22 53 12 (Try.prog.bytesOf 53) := elemT_of (z := .agg #[.int .u32 0, .int .u32 0, .int .u32 0, .int .u32 0, .int .u32 0, .int .u32 0, .bool false, .bool false, .bool false, .bool false, .int .i64 0, .bool false]) (by kernel_rfl) (by kernel_rfl) (by decide) (by decide)
set_option maxHeartbeats 1000000 in
theorem to26_any (A : Option Addr) (cap n : Nat) (l : List CH) (lim : Int) (dead : Bool) (w : World) (hl : l.length = n) (hr : RdX CH.cells w A l) (hf : Few l) : Calls Try.prog 8 #[.agg #[.slice A n cap, .int .u32 lim, .bool dead]] w (OwnR l w fun A cap => MX.val ⟨A, cap, l, lim, dead⟩) := by
  subst hl
  have hlen := few_len hf
  have hby := few_by hf
  refine Hs.enter Try.func8 [] [] [] [.g [.v (.slice A l.length cap), .v (.int .u32 lim), .v (.bool dead)]] (Mem.start0 w) (by kernel_rfl) (by kernel_rfl) ?_
  have J : ∀ (d i : Nat), l.length - i = d → i ≤ l.length → ∀ (b0 b1 b2 : Nat) (A2 : Option Addr) (c2 : Nat) (l2 : List CH), l2 = l.take i → ∀ (u : Nat → Value), Hs Try.prog 8 (OwnR l w fun A cap => MX.val ⟨A, cap, l, lim, dead⟩) (Try.f8).ntmps w [] [b0, b1, b2, 0] ⟨.no, loopAt Try.f8 0, pins [(1, .c (.p 0 0)), (2, .c (.p 1 0)), (3, .c (.p 2 0)), (12, .c (.v (.slice A l.length cap))), (13, .c (.v (.int .i64 l.length))), (14, .c (.v (.int .i64 i)))] (.vals u), [.b true 25 [.v (.slice A l.length cap), .v (.int .u32 lim), .v (.bool dead)], .b true 34 [.v (.slice none 0 0), .v (.int .u32 0), .v (.bool false)], .b true 34 [.v (.slice A2 i c2), .v (.int .u32 lim), .v (.bool dead)], .s A2 c2 i 45 12 (l2.flatMap CH.cells)]⟩ := by
    intro d
    induction d with
    | zero =>
      intro i hd hi b0 b1 b2 A2 c2 l2 hl2 u
      obtain rfl : i = l.length := by omega
      rw [List.take_length] at hl2
      subst hl2
      refine Hs.run0 300 (fun _ => by kernel_rfl) ?_
      refine Hs.condP ((l2.length : Int) < (l2.length : Int)) (by kernel_rfl) (fun h => by omega) (fun h => ?_)
      refine Hs.run0 300 (fun _ => by kernel_rfl) ?_
      exact Hs.ret (v := MX.val ⟨A2, c2, l2, lim, dead⟩) Try.func8 (by kernel_rfl) fun w' H => ⟨A2, c2, rfl, H.only, H.fresh 3 rfl (by kernel_rfl)⟩
    | succ d ih =>
      intro i hd hi b0 b1 b2 A2 c2 l2 hl2 u
      have hil : i < l.length := by omega
      have hl2n : l2.length = i := by rw [hl2, List.length_take]; omega
      obtain ⟨x, hx⟩ : ∃ x, l[i]? = some x := ⟨_, List.getElem?_eq_getElem hil⟩
      obtain ⟨ab, aoff, hA, _, _⟩ := hr (by omega)
      subst hA
      refine Hs.run0 300 (fun _ => by kernel_rfl) ?_
      refine Hs.condP ((i : Int) < (l.length : Int)) (by kernel_rfl) (fun h => ?_) (fun h => by omega)
      refine Hs.run0 300 (fun _ => by kernel_rfl) ?_
      refine Hs.idx (b := ab) (off := aoff) (c := cap) elemLc hil (by kernel_rfl) ?_
      refine Hs.ldx (E := 53) (b := ab) (off := aoff) (i := i) ch_len (.g x.sc) (by kernel_rfl) (fun w' H => hr.only H.only) hx (by kernel_rfl) (by kernel_rfl) (by kernel_rfl) (by kernel_rfl) ?_
      refine Hs.run1 300 (fun _ => by kernel_rfl) fun b4 => ?_
      refine Hs.any [2, 4, 1007] (by kernel_rfl) ?_
      refine Hs.run0 300 (fun _ => by kernel_rfl) ?_
      refine Hs.callV (fun w' H => to25_any x w') (by kernel_rfl) ?_
      refine Hs.run1 300 (fun _ => by kernel_rfl) fun b5 => ?_
      refine Hs.app (c := 1) (ty := 32) 3 elemCh l2 [x] i 1 hl2n rfl ch_one ch_len (A := A2) (B := some ⟨b5, 0, none⟩) (cap := c2) (by kernel_rfl) (by kernel_rfl) (by kernel_rfl) (fun w' H => H.rdB (gs := [x]) 5 (wr := true) (T := 45) (cs := x.cells.map SC.v) (by kernel_rfl) rfl) (by omega) (by
        calc (i + 1) * Try.prog.bytesOf 45 ≤ l.length * Try.prog.bytesOf 45 := Nat.mul_le_mul_right _ (by omega)
          _ ≤ _ := hby) fun A3 c3 h3 => ?_
      refine Hs.run0 300 (fun _ => by kernel_rfl) ?_
      refine Hs.slot 14 (.c (.v (.int .i64 (i + 1 : Nat)))) rfl ((by kernel_rfl : _ = Value.int .i64 (IntKind.i64.wrap ((i : Int) + 1))).trans (wrap_nextI hlen)) ?_
      refine Hs.loop (by kernel_rfl) ?_
      exact Hs.goto (loopAt Try.f8 0) [0, 1, 2, 3] [.b true 25 [.v (.slice (some ⟨ab, aoff, none⟩) l.length cap), .v (.int .u32 lim), .v (.bool dead)], .b true 34 [.v (.slice none 0 0), .v (.int .u32 0), .v (.bool false)], .b true 34 [.v (.slice A3 (i + 1) c3), .v (.int .u32 lim), .v (.bool dead)], .s A3 c3 (i + 1) 45 12 ((l2 ++ [x]).flatMap CH.cells)] [(1, .c (.p 0 0)), (2, .c (.p 1 0)), (3, .c (.p 2 0)), (12, .c (.v (.slice (some ⟨ab, aoff, none⟩) l.length cap))), (13, .c (.v (.int .i64 l.length))), (14, .c (.v (.int .i64 (i + 1 : Nat))))] (by kernel_rfl) (by decide) (by kernel_rfl) (by kernel_rfl) (fun _ => (by kernel_rfl)) (fun u => ih (i + 1) (by omega) (by omega) b0 b1 b2 A3 c3 (l2 ++ [x]) (by rw [hl2, List.take_add_one, hx]; rfl) u)
  refine Hs.run3 300 (fun _ => by kernel_rfl) fun b0 b1 b2 => ?_
  refine Hs.nilS 45 12 (by kernel_rfl) ?_ (by kernel_rfl)
  refine Hs.loop (by kernel_rfl) ?_
  exact Hs.goto (loopAt Try.f8 0) [0, 1, 2, 3] [.b true 25 [.v (.slice A l.length cap), .v (.int .u32 lim), .v (.bool dead)], .b true 34 [.v (.slice none 0 0), .v (.int .u32 0), .v (.bool false)], .b true 34 [.v (.slice none 0 0), .v (.int .u32 lim), .v (.bool dead)], .s none 0 0 45 12 []] [(1, .c (.p 0 0)), (2, .c (.p 1 0)), (3, .c (.p 2 0)), (12, .c (.v (.slice A l.length cap))), (13, .c (.v (.int .i64 l.length))), (14, .c (.v (.int .i64 (0 : Nat))))] (by kernel_rfl) (by decide) (by kernel_rfl) (by kernel_rfl) (fun _ => (by kernel_rfl)) (fun u => J _ 0 rfl (by omega) b0 b1 b2 none 0 [] (by simp) u)
end Go.Proofs.Ytbamojbkehnmkaa
