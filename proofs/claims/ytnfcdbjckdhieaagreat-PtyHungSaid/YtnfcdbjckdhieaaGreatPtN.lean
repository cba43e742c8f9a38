/- Layer 17: a terminal that is hung stays so: the walk; for all terminals and steps; no condition but what they hold. -/
import Derived.Test.YtnfcdbjckdhieaaGreatPtM
namespace Go.Proofs.YtnfcdbjckdhieaaGreat
set_option linter.all false
set_option maxRecDepth 100000
open Go.RowKit

set_option maxHeartbeats 8000000 in
theorem hung_walk (x0 : PM) (d0 : DM) (s0 : DS) (A : Option Addr) (cap : Nat) (xs : List OQ) (w : World) (h : Data s0 d0 w) (hL : LenOk d0) (hm0 : -9223372036854775808 ≤ d0.t.mn ∧ d0.t.mn ≤ 9223372036854775807) (ht0 : -9223372036854775808 ≤ d0.t.tm ∧ d0.t.tm ≤ 9223372036854775807) (hi0 : -9223372036854775808 ≤ d0.idle ∧ d0.idle ≤ 9223372036854775807) (hx : RdOQ w A cap xs) (hok : ∀ x ∈ xs, OQOk x) : Calls Tryz.prog 6 #[.agg (lptyV x0 d0 s0).toArray, .slice A xs.length cap] w (fun e w' => e = .returned (.bool true) ∧ Only [] w w') := by
  have hm : xs.length ≤ maxLen := Nat.le_trans hx.le hx.cap
  have J : xs.length ≤ 60 → (∀ x ∈ xs, x.b.length ≤ 12000) → ∀ (d : DM), Iv 14000 d → ∀ (e i : Nat), xs.length - i = e → i ≤ xs.length → ∀ (b0 g p : Nat) (x : PM) (s : DS) (w1 : World) (L1 : List Nat), x.hung = true → Nx w w1 L1 (fun w => Data s d w ∧ True) → ∀ (u : Nat → Value), Hs Tryz.prog 6 (fun e w' => e = .returned (.bool true) ∧ Only [] w w') (Tryz.f6).ntmps w1 L1 [b0, g, p] ⟨.no, loopAt Tryz.f6 0, pins [(2, .c (.p 0 0)), (5, .c (.p 2 0)), (7, .c (.v (.int .i64 (usedD d : Nat)))), (8, .c (.v (.int .i64 (d.out.length : Nat)))), (85, .c (.v (.slice A xs.length cap))), (86, .c (.v (.int .i64 xs.length))), (87, .c (.v (.int .i64 i)))] (.vals u), [.b true 34 (lptySC x0 d0 s0), .b true 96 (discSC d s), .b true 42 (ptySC x 1)]⟩ := by
    intro h60 hbl d hI e
    induction e with
    | zero =>
      intro i hd hi b0 g p x s w1 L1 hh N u
      obtain rfl : i = xs.length := by omega
      refine Hs.run0 300 (fun _ => by kernel_rfl) ?_
      refine Hs.condP ((xs.length : Int) < (xs.length : Int)) (by kernel_rfl) (fun h => by omega) (fun _ => ?_)
      refine Hs.run0 300 (fun _ => by kernel_rfl) ?_
      exact Hs.ret (v := .bool true) Tryz.func6 (by kernel_rfl) fun w' H => ⟨rfl, N.only H⟩
    | succ e ih =>
      intro i hd hi b0 g p x s w1 L1 hh N u
      have hil : i < xs.length := by omega
      obtain ⟨y, hyi⟩ : ∃ y, xs[i]? = some y := ⟨_, List.getElem?_eq_getElem hil⟩
      have hym : y ∈ xs := List.mem_of_getElem? hyi
      obtain ⟨ab, aoff, hA, _, _⟩ := hx.rd (by omega)
      have hev := doP_hung (x := x) (d := d) (o := y) hh
      have hdo := fun w' hP hk => do17_any y x d s p g w' hP (hI.few (by omega)) hI.rng (hok y hym) hk (by have := hbl y hym; omega)
      generalize doP x d y = r at hev hdo
      obtain ⟨x2, d2, a⟩ := r
      obtain ⟨hh2, hd2, hb, k1, k2, k5, k11⟩ := hev
      replace hh2 : x2.hung = true := hh2
      replace hd2 : d2 = d := hd2
      subst d2
      obtain ⟨b', n', e', ev⟩ := a
      replace hb : b' = [] := hb
      replace k1 : y.k = 1 → n' = 0 ∧ ev = [] := k1
      replace k2 : y.k = 2 ∨ y.k = 3 ∨ y.k = 6 → e' = 11 := k2
      replace k5 : y.k = 5 → e' = 0 := k5
      replace k11 : y.k = 11 → ev = [] := k11
      subst hb
      have hih := fun b0 g p s w1 L1 N u => ih (i + 1) (by omega) (by omega) b0 g p x2 s w1 L1 hh2 N u
      have hrx := hx.rd
      have hbx := hx.all y hym
      rw [hA] at hih hrx ⊢
      clear ih
      obtain ⟨co, ro, wi, he, ses, grp, sl, hung⟩ := x2
      replace hh2 : hung = true := hh2
      subst hh2
      obtain ⟨x2, hx2⟩ : ∃ x2 : PM, x2 = ⟨co, ro, wi, he, ses, grp, sl, true⟩ := ⟨_, rfl⟩
      refine Hs.run0 300 (fun _ => by kernel_rfl) ?_
      refine Hs.condP ((i : Int) < (xs.length : Int)) (by kernel_rfl) (fun _ => ?_) (fun h => by omega)
      refine Hs.run0 300 (fun _ => by kernel_rfl) ?_
      refine Hs.idx (b := ab) (off := aoff) (len := xs.length) (c := cap) (i := i) elemOQ hil (by kernel_rfl) ?_
      refine Hs.ldx (cf := cOQ) (size := 32) (E := 80) (b := ab) (off := aoff) (i := i) (l := xs) (x := y) cOQ_len (.g y.sc) (by kernel_rfl) (fun w' H => hrx.only (N.only H)) hyi (by kernel_rfl) (by kernel_rfl) rfl (by kernel_rfl) ?_
      refine Hs.run1 300 (fun _ => by kernel_rfl) fun b3 => ?_
      refine Hs.callNQ (X := AX) (F := fun _ => True) (x := x) (x' := ⟨co, ro, wi, he, ses, grp, sl, true⟩) (s := s) (d := d) (d' := d) (v := ansV ⟨[], n', e', ev⟩) (Q := AnsAt ⟨[], n', e', ev⟩) 2 1 N rfl rfl (by kernel_rfl) (by kernel_rfl) (by decide) (fun w' H hP => hdo w' hP (N.keepP H (k1 := 2) (k2 := 1) rfl rfl (by kernel_rfl : _ = some (HB.b true 42 (ptySC x 1))) (by kernel_rfl : _ = some (HB.b true 96 (discSC d s))) hbx)) (by kernel_rfl) (by kernel_rfl) ⟨(by kernel_rfl), fun _ => (by kernel_rfl)⟩ fun s2 z w2 L2 N2 => ?_
      refine Hs.run1 300 (fun _ => by kernel_rfl) fun b4 => ?_
      refine Hs.rung0 [5] 300 (fun _ => by kernel_rfl) ?_
      refine Hs.callV (fun w' H => dused_any d s2 g w' ⟨by have := H.at 1 (by kernel_rfl : _ = some (HB.b true 96 (discSC d s2))); exact this, (N2.keeps.step H).mono (fun x hx => by rw [List.mem_singleton.1 hx]; exact wrN_mem.2 ⟨1, _, g, (by kernel_rfl : _ = some (HB.b true 96 (discSC d s2))), rfl, rfl, rfl⟩) |>.imp fun _ h => h.1.1⟩ (hI.few (by omega))) (by kernel_rfl) ?_
      refine Hs.rung0 [5] 300 (fun _ => by kernel_rfl) ?_
      refine Hs.bool 108 ((usedD d : Int) != (usedD d : Int)) (by kernel_rfl) (fun h => by simp at h) (fun _ => ?_)
      refine Hs.rung0 [5, 14] 300 (fun _ => by kernel_rfl) ?_
      refine Hs.bool 120 ((d.out.length : Int) != (d.out.length : Int)) (by kernel_rfl) (fun h => by simp at h) (fun _ => ?_)
      refine Hs.rung0 [5, 14, 26] 300 (fun _ => by kernel_rfl) ?_
      refine Hs.condF (by kernel_rfl) ?_
      refine Hs.run0 300 (fun _ => by kernel_rfl) ?_
      refine Hs.cond (y.k == 1) (by kernel_rfl) (fun h1 => ?_) (fun h1 => ?_)
      · obtain ⟨hn, he⟩ := k1 (by simpa using h1)
        subst hn
        subst he
        refine Hs.run0 300 (fun _ => by kernel_rfl) ?_
        refine Hs.rung0 [3] 300 (fun _ => by kernel_rfl) ?_
        refine Hs.condF (by kernel_rfl) ?_
        refine Hs.run0 300 (fun _ => by kernel_rfl) ?_
        refine Hs.slot 87 (.c (.v (.int .i64 (i + 1 : Nat)))) rfl ((by kernel_rfl : _ = Value.int .i64 (IntKind.i64.wrap ((i : Int) + 1))).trans (wrap_nextJ hm)) ?_
        refine Hs.loop (by kernel_rfl) ?_
        exact Hs.goto (loopAt Tryz.f6 0) [0, 1, 2] [.b true 34 (lptySC x0 d0 s0), .b true 96 (discSC d s2), .b true 42 (ptySC ⟨co, ro, wi, he, ses, grp, sl, true⟩ 1)] [(2, .c (.p 0 0)), (5, .c (.p 2 0)), (7, .c (.v (.int .i64 (usedD d : Nat)))), (8, .c (.v (.int .i64 (d.out.length : Nat)))), (85, .c (.v (.slice (some ⟨ab, aoff, none⟩) xs.length cap))), (86, .c (.v (.int .i64 xs.length))), (87, .c (.v (.int .i64 (i + 1 : Nat))))] (by kernel_rfl) (by decide) (by kernel_rfl) (by kernel_rfl) (fun _ => (by kernel_rfl)) (fun u => hih b0 g p s2 w2 L2 (N2.imp fun w h => ⟨h.1.1, trivial⟩) u)
      refine Hs.run0 300 (fun _ => by kernel_rfl) ?_
      refine Hs.cond (y.k == 2) (by kernel_rfl) (fun h2 => ?_) (fun h2 => ?_)
      · have hn := k2 (by have : y.k = 2 := by simpa using h2
                          omega)
        subst hn
        refine Hs.run0 300 (fun _ => by kernel_rfl) ?_
        refine Hs.cond (y.k == 2) (by kernel_rfl) (fun _ => ?_) (fun h => by rw [h2] at h; cases h)
        refine Hs.run0 300 (fun _ => by kernel_rfl) ?_
        refine Hs.condF (by kernel_rfl) ?_
        refine Hs.run0 300 (fun _ => by kernel_rfl) ?_
        refine Hs.slot 87 (.c (.v (.int .i64 (i + 1 : Nat)))) rfl ((by kernel_rfl : _ = Value.int .i64 (IntKind.i64.wrap ((i : Int) + 1))).trans (wrap_nextJ hm)) ?_
        refine Hs.loop (by kernel_rfl) ?_
        exact Hs.goto (loopAt Tryz.f6 0) [0, 1, 2] [.b true 34 (lptySC x0 d0 s0), .b true 96 (discSC d s2), .b true 42 (ptySC ⟨co, ro, wi, he, ses, grp, sl, true⟩ 1)] [(2, .c (.p 0 0)), (5, .c (.p 2 0)), (7, .c (.v (.int .i64 (usedD d : Nat)))), (8, .c (.v (.int .i64 (d.out.length : Nat)))), (85, .c (.v (.slice (some ⟨ab, aoff, none⟩) xs.length cap))), (86, .c (.v (.int .i64 xs.length))), (87, .c (.v (.int .i64 (i + 1 : Nat))))] (by kernel_rfl) (by decide) (by kernel_rfl) (by kernel_rfl) (fun _ => (by kernel_rfl)) (fun u => hih b0 g p s2 w2 L2 (N2.imp fun w h => ⟨h.1.1, trivial⟩) u)
      refine Hs.run0 300 (fun _ => by kernel_rfl) ?_
      refine Hs.cond (y.k == 3) (by kernel_rfl) (fun h3 => ?_) (fun h3 => ?_)
      · have hn := k2 (by have : y.k = 3 := by simpa using h3
                          omega)
        subst hn
        refine Hs.run0 300 (fun _ => by kernel_rfl) ?_
        refine Hs.cond (y.k == 3) (by kernel_rfl) (fun _ => ?_) (fun h => by rw [h3] at h; cases h)
        refine Hs.run0 300 (fun _ => by kernel_rfl) ?_
        refine Hs.condF (by kernel_rfl) ?_
        refine Hs.run0 300 (fun _ => by kernel_rfl) ?_
        refine Hs.slot 87 (.c (.v (.int .i64 (i + 1 : Nat)))) rfl ((by kernel_rfl : _ = Value.int .i64 (IntKind.i64.wrap ((i : Int) + 1))).trans (wrap_nextJ hm)) ?_
        refine Hs.loop (by kernel_rfl) ?_
        exact Hs.goto (loopAt Tryz.f6 0) [0, 1, 2] [.b true 34 (lptySC x0 d0 s0), .b true 96 (discSC d s2), .b true 42 (ptySC ⟨co, ro, wi, he, ses, grp, sl, true⟩ 1)] [(2, .c (.p 0 0)), (5, .c (.p 2 0)), (7, .c (.v (.int .i64 (usedD d : Nat)))), (8, .c (.v (.int .i64 (d.out.length : Nat)))), (85, .c (.v (.slice (some ⟨ab, aoff, none⟩) xs.length cap))), (86, .c (.v (.int .i64 xs.length))), (87, .c (.v (.int .i64 (i + 1 : Nat))))] (by kernel_rfl) (by decide) (by kernel_rfl) (by kernel_rfl) (fun _ => (by kernel_rfl)) (fun u => hih b0 g p s2 w2 L2 (N2.imp fun w h => ⟨h.1.1, trivial⟩) u)
      refine Hs.run0 300 (fun _ => by kernel_rfl) ?_
      refine Hs.cond (y.k == 6) (by kernel_rfl) (fun h6 => ?_) (fun h6 => ?_)
      · have hn := k2 (by have : y.k = 6 := by simpa using h6
                          omega)
        subst hn
        refine Hs.run0 300 (fun _ => by kernel_rfl) ?_
        refine Hs.condF (by kernel_rfl) ?_
        refine Hs.run0 300 (fun _ => by kernel_rfl) ?_
        refine Hs.slot 87 (.c (.v (.int .i64 (i + 1 : Nat)))) rfl ((by kernel_rfl : _ = Value.int .i64 (IntKind.i64.wrap ((i : Int) + 1))).trans (wrap_nextJ hm)) ?_
        refine Hs.loop (by kernel_rfl) ?_
        exact Hs.goto (loopAt Tryz.f6 0) [0, 1, 2] [.b true 34 (lptySC x0 d0 s0), .b true 96 (discSC d s2), .b true 42 (ptySC ⟨co, ro, wi, he, ses, grp, sl, true⟩ 1)] [(2, .c (.p 0 0)), (5, .c (.p 2 0)), (7, .c (.v (.int .i64 (usedD d : Nat)))), (8, .c (.v (.int .i64 (d.out.length : Nat)))), (85, .c (.v (.slice (some ⟨ab, aoff, none⟩) xs.length cap))), (86, .c (.v (.int .i64 xs.length))), (87, .c (.v (.int .i64 (i + 1 : Nat))))] (by kernel_rfl) (by decide) (by kernel_rfl) (by kernel_rfl) (fun _ => (by kernel_rfl)) (fun u => hih b0 g p s2 w2 L2 (N2.imp fun w h => ⟨h.1.1, trivial⟩) u)
      refine Hs.run0 300 (fun _ => by kernel_rfl) ?_
      refine Hs.cond (y.k == 5) (by kernel_rfl) (fun h5 => ?_) (fun h5 => ?_)
      · have hn := k5 (by simpa using h5)
        subst hn
        refine Hs.run0 300 (fun _ => by kernel_rfl) ?_
        refine Hs.condF (by kernel_rfl) ?_
        refine Hs.run0 300 (fun _ => by kernel_rfl) ?_
        refine Hs.slot 87 (.c (.v (.int .i64 (i + 1 : Nat)))) rfl ((by kernel_rfl : _ = Value.int .i64 (IntKind.i64.wrap ((i : Int) + 1))).trans (wrap_nextJ hm)) ?_
        refine Hs.loop (by kernel_rfl) ?_
        exact Hs.goto (loopAt Tryz.f6 0) [0, 1, 2] [.b true 34 (lptySC x0 d0 s0), .b true 96 (discSC d s2), .b true 42 (ptySC ⟨co, ro, wi, he, ses, grp, sl, true⟩ 1)] [(2, .c (.p 0 0)), (5, .c (.p 2 0)), (7, .c (.v (.int .i64 (usedD d : Nat)))), (8, .c (.v (.int .i64 (d.out.length : Nat)))), (85, .c (.v (.slice (some ⟨ab, aoff, none⟩) xs.length cap))), (86, .c (.v (.int .i64 xs.length))), (87, .c (.v (.int .i64 (i + 1 : Nat))))] (by kernel_rfl) (by decide) (by kernel_rfl) (by kernel_rfl) (fun _ => (by kernel_rfl)) (fun u => hih b0 g p s2 w2 L2 (N2.imp fun w h => ⟨h.1.1, trivial⟩) u)
      refine Hs.run0 300 (fun _ => by kernel_rfl) ?_
      refine Hs.cond (y.k == 11) (by kernel_rfl) (fun h11 => ?_) (fun h11 => ?_)
      · have hn := k11 (by simpa using h11)
        subst hn
        refine Hs.run0 300 (fun _ => by kernel_rfl) ?_
        refine Hs.condF (by kernel_rfl) ?_
        refine Hs.run0 300 (fun _ => by kernel_rfl) ?_
        refine Hs.slot 87 (.c (.v (.int .i64 (i + 1 : Nat)))) rfl ((by kernel_rfl : _ = Value.int .i64 (IntKind.i64.wrap ((i : Int) + 1))).trans (wrap_nextJ hm)) ?_
        refine Hs.loop (by kernel_rfl) ?_
        exact Hs.goto (loopAt Tryz.f6 0) [0, 1, 2] [.b true 34 (lptySC x0 d0 s0), .b true 96 (discSC d s2), .b true 42 (ptySC ⟨co, ro, wi, he, ses, grp, sl, true⟩ 1)] [(2, .c (.p 0 0)), (5, .c (.p 2 0)), (7, .c (.v (.int .i64 (usedD d : Nat)))), (8, .c (.v (.int .i64 (d.out.length : Nat)))), (85, .c (.v (.slice (some ⟨ab, aoff, none⟩) xs.length cap))), (86, .c (.v (.int .i64 xs.length))), (87, .c (.v (.int .i64 (i + 1 : Nat))))] (by kernel_rfl) (by decide) (by kernel_rfl) (by kernel_rfl) (fun _ => (by kernel_rfl)) (fun u => hih b0 g p s2 w2 L2 (N2.imp fun w h => ⟨h.1.1, trivial⟩) u)
      refine Hs.run0 300 (fun _ => by kernel_rfl) ?_
      refine Hs.slot 87 (.c (.v (.int .i64 (i + 1 : Nat)))) rfl ((by kernel_rfl : _ = Value.int .i64 (IntKind.i64.wrap ((i : Int) + 1))).trans (wrap_nextJ hm)) ?_
      refine Hs.loop (by kernel_rfl) ?_
      exact Hs.goto (loopAt Tryz.f6 0) [0, 1, 2] [.b true 34 (lptySC x0 d0 s0), .b true 96 (discSC d s2), .b true 42 (ptySC ⟨co, ro, wi, he, ses, grp, sl, true⟩ 1)] [(2, .c (.p 0 0)), (5, .c (.p 2 0)), (7, .c (.v (.int .i64 (usedD d : Nat)))), (8, .c (.v (.int .i64 (d.out.length : Nat)))), (85, .c (.v (.slice (some ⟨ab, aoff, none⟩) xs.length cap))), (86, .c (.v (.int .i64 xs.length))), (87, .c (.v (.int .i64 (i + 1 : Nat))))] (by kernel_rfl) (by decide) (by kernel_rfl) (by kernel_rfl) (fun _ => (by kernel_rfl)) (fun u => hih b0 g p s2 w2 L2 (N2.imp fun w h => ⟨h.1.1, trivial⟩) u)
  refine Hs.enter Tryz.func6 [] [] [] [.g (lptySC x0 d0 s0), .c (.v (.slice A xs.length cap))] (Mem.start0 w) (by kernel_rfl) (by kernel_rfl) ?_
  refine Hs.run1 300 (fun _ => by kernel_rfl) fun b0 => ?_
  refine Hs.callV (fun w' H => alive17_any w') (by kernel_rfl) ?_
  refine Hs.run0 300 (fun _ => by kernel_rfl) ?_
  refine Hs.condF (by kernel_rfl) ?_
  refine Hs.run0 300 (fun _ => by kernel_rfl) ?_
  refine Hs.callV (fun w' H => great17_any x0 d0 s0 A cap xs w' (h.only17 H.only) (hx.only H.only)) (by kernel_rfl) ?_
  refine Hs.run0 300 (fun _ => by kernel_rfl) ?_
  refine Hs.cond (greatQ d0 xs) (by kernel_rfl) (fun hg => ?_) (fun hg => ?_)
  · refine Hs.run0 300 (fun _ => by kernel_rfl) ?_
    exact Hs.ret (v := .bool true) Tryz.func6 (by kernel_rfl) fun w' H => ⟨rfl, H.only⟩
  obtain ⟨hf, hu, ho, hz, h60, hbl⟩ := greatQ_few hL hg
  refine Hs.run0 300 (fun _ => by kernel_rfl) ?_
  refine Hs.callB2 1 (fun _ k => ptySC x0 k) (fun s' => discSC d0 s') (Nx.start w) (fun w' H => to17_any x0 d0 s0 w' (h.only17 H.only) hf) (fun β _ k g hk => by subst hk; rfl) (fun β s' => rfl) (fun _ j k hk => by simp [ptySC, SC.wf, blt_spec, hk]) (fun s' j => disc_wf _ _ _) (by kernel_rfl) (by kernel_rfl) (by kernel_rfl) fun p g s1 w1 L1 N1 => ?_
  refine Hs.run0 300 (fun _ => by kernel_rfl) ?_
  have hI0 : Iv 14000 d0 := ⟨hu, hz, ho, hm0, ht0, hi0⟩
  have hI1 : Iv 14000 (hangP x0 d0).2.1 := by
    unfold hangP
    split
    · exact hI0
    · exact flushD_iv hI0
  have hh := hangP_hung x0 d0
  have hhg := fun w' hP => phang_any x0 d0 s1 p g w' hP
  generalize hangP x0 d0 = r at hh hI1 hhg
  obtain ⟨x1, d1, ev⟩ := r
  obtain ⟨co, ro, wi, he, ses, grp, sl, hung⟩ := x1
  obtain ⟨e1, e2, e3, e4⟩ := hh
  replace e1 : hung = true := e1
  subst e1
  replace e2 : x0.hung = true → ev = [] := e2
  replace e3 : x0.hung = false → x0.grp ≠ 0 → ev.length = 2 := e3
  replace e4 : x0.hung = false → d1.out = [] ∧ usedD d1 = 0 := e4
  replace hI1 : Iv 14000 d1 := hI1
  refine Hs.callNQ (X := SX) (F := fun _ => True) (x := x0) (x' := ⟨co, ro, wi, he, ses, grp, sl, true⟩) (s := s1) (d := d0) (d' := d1) (v := evV ev) (Q := fun z w => RdE w z ev) 2 1 (N1.imp fun w h => ⟨h.1, trivial⟩) rfl rfl (by kernel_rfl) (by kernel_rfl) (by decide) (fun w' H hP => hhg w' hP) (by kernel_rfl) (by kernel_rfl) ⟨(by kernel_rfl), fun _ => (by kernel_rfl)⟩ fun s2 z w2 L2 N2 => ?_
  refine Hs.run0 300 (fun _ => by kernel_rfl) ?_
  refine Hs.any [0, 1, 2] (by kernel_rfl) ?_
  refine Hs.rung0 [5] 300 (fun _ => by kernel_rfl) ?_
  refine Hs.bool 29 x0.hung (by kernel_rfl) (fun hh => ?_) (fun hh => ?_)
  · have he := e2 hh
    subst he
    refine Hs.rung0 [5, 8, 14] 300 (fun _ => by kernel_rfl) ?_
    refine Hs.bool 39 (!x0.hung) (by kernel_rfl) (fun h => by rw [hh] at h; cases h) (fun _ => ?_)
    refine Hs.rung0 [5, 8, 14, 18, 23, 29] 300 (fun _ => by kernel_rfl) ?_
    refine Hs.bool 54 (!x0.hung) (by kernel_rfl) (fun h => by rw [hh] at h; cases h) (fun _ => ?_)
    refine Hs.rung0 [5, 8, 14, 18, 23, 29, 33] 300 (fun _ => by kernel_rfl) ?_
    refine Hs.condF (by kernel_rfl) ?_
    refine Hs.run0 300 (fun _ => by kernel_rfl) ?_
    refine Hs.any [0, 1, 2] (by kernel_rfl) ?_
    refine Hs.run0 300 (fun _ => by kernel_rfl) ?_
    refine Hs.callV (fun w' H => dused_any d1 s2 g w' ⟨by have := H.at 1 (by kernel_rfl : _ = some (HB.b true 96 (discSC d1 s2))); exact this, (N2.keeps.step H).mono (fun x hx => by rw [List.mem_singleton.1 hx]; exact wrN_mem.2 ⟨1, _, g, (by kernel_rfl : _ = some (HB.b true 96 (discSC d1 s2))), rfl, rfl, rfl⟩) |>.imp fun _ h => h.1.1⟩ (hI1.few (by omega))) (by kernel_rfl) ?_
    refine Hs.run0 300 (fun _ => by kernel_rfl) ?_
    refine Hs.loop (by kernel_rfl) ?_
    exact Hs.goto (loopAt Tryz.f6 0) [0, 1, 2] [.b true 34 (lptySC x0 d0 s0), .b true 96 (discSC d1 s2), .b true 42 (ptySC ⟨co, ro, wi, he, ses, grp, sl, true⟩ 1)] [(2, .c (.p 0 0)), (5, .c (.p 2 0)), (7, .c (.v (.int .i64 (usedD d1 : Nat)))), (8, .c (.v (.int .i64 (d1.out.length : Nat)))), (85, .c (.v (.slice A xs.length cap))), (86, .c (.v (.int .i64 xs.length))), (87, .c (.v (.int .i64 (0 : Nat))))] (by kernel_rfl) (by decide) (by kernel_rfl) (by kernel_rfl) (fun _ => (by kernel_rfl)) (fun u => J h60 hbl d1 hI1 xs.length 0 (by omega) (by omega) b0 g p ⟨co, ro, wi, he, ses, grp, sl, true⟩ s2 w2 L2 rfl (N2.imp fun w h => ⟨h.1.1, trivial⟩) u)
  · refine Hs.rung0 [5, 8, 14] 300 (fun _ => by kernel_rfl) ?_
    refine Hs.bool 39 (!x0.hung) (by kernel_rfl) (fun _ => ?_) (fun h => by rw [hh] at h; cases h)
    refine Hs.rung0 [5, 8, 14, 18] 300 (fun _ => by kernel_rfl) ?_
    obtain ⟨ho1, hu1⟩ := e4 hh
    refine Hs.bool 44 (x0.grp != 0) (by kernel_rfl) (fun h1 => ?_) (fun h1 => ?_)
    · have hev := e3 hh (by simpa using h1)
      refine Hs.rung0 [5, 8, 14, 18, 23] 300 (fun _ => by kernel_rfl) ?_
      refine Hs.bool 50 ((ev.length : Int) != 2) (by kernel_rfl) (fun h => by rw [hev] at h; simp at h) (fun _ => ?_)
      refine Hs.rung0 [5, 8, 14, 18, 23, 29] 300 (fun _ => by kernel_rfl) ?_
      refine Hs.bool 54 (!x0.hung) (by kernel_rfl) (fun _ => ?_) (fun h => by rw [hh] at h; cases h)
      refine Hs.rung0 [5, 8, 14, 18, 23, 29, 33] 300 (fun _ => by kernel_rfl) ?_
      refine Hs.callV (fun w' H => dused_any d1 s2 g w' ⟨by have := H.at 1 (by kernel_rfl : _ = some (HB.b true 96 (discSC d1 s2))); exact this, (N2.keeps.step H).mono (fun x hx => by rw [List.mem_singleton.1 hx]; exact wrN_mem.2 ⟨1, _, g, (by kernel_rfl : _ = some (HB.b true 96 (discSC d1 s2))), rfl, rfl, rfl⟩) |>.imp fun _ h => h.1.1⟩ (hI1.few (by omega))) (by kernel_rfl) ?_
      refine Hs.rung0 [5, 8, 14, 18, 23, 29, 33] 300 (fun _ => by kernel_rfl) ?_
      refine Hs.cond (IntKind.i64.wrap ((d1.out.length : Int) + (usedD d1 : Int)) != 0) (by kernel_rfl) (fun h => by rw [ho1, hu1] at h; exact absurd h (by decide)) (fun _ => ?_)
      refine Hs.run0 300 (fun _ => by kernel_rfl) ?_
      refine Hs.any [0, 1, 2] (by kernel_rfl) ?_
      refine Hs.run0 300 (fun _ => by kernel_rfl) ?_
      refine Hs.callV (fun w' H => dused_any d1 s2 g w' ⟨by have := H.at 1 (by kernel_rfl : _ = some (HB.b true 96 (discSC d1 s2))); exact this, (N2.keeps.step H).mono (fun x hx => by rw [List.mem_singleton.1 hx]; exact wrN_mem.2 ⟨1, _, g, (by kernel_rfl : _ = some (HB.b true 96 (discSC d1 s2))), rfl, rfl, rfl⟩) |>.imp fun _ h => h.1.1⟩ (hI1.few (by omega))) (by kernel_rfl) ?_
      refine Hs.run0 300 (fun _ => by kernel_rfl) ?_
      refine Hs.loop (by kernel_rfl) ?_
      exact Hs.goto (loopAt Tryz.f6 0) [0, 1, 2] [.b true 34 (lptySC x0 d0 s0), .b true 96 (discSC d1 s2), .b true 42 (ptySC ⟨co, ro, wi, he, ses, grp, sl, true⟩ 1)] [(2, .c (.p 0 0)), (5, .c (.p 2 0)), (7, .c (.v (.int .i64 (usedD d1 : Nat)))), (8, .c (.v (.int .i64 (d1.out.length : Nat)))), (85, .c (.v (.slice A xs.length cap))), (86, .c (.v (.int .i64 xs.length))), (87, .c (.v (.int .i64 (0 : Nat))))] (by kernel_rfl) (by decide) (by kernel_rfl) (by kernel_rfl) (fun _ => (by kernel_rfl)) (fun u => J h60 hbl d1 hI1 xs.length 0 (by omega) (by omega) b0 g p ⟨co, ro, wi, he, ses, grp, sl, true⟩ s2 w2 L2 rfl (N2.imp fun w h => ⟨h.1.1, trivial⟩) u)
    · refine Hs.rung0 [5, 8, 14, 18, 23, 29] 300 (fun _ => by kernel_rfl) ?_
      refine Hs.bool 54 (!x0.hung) (by kernel_rfl) (fun _ => ?_) (fun h => by rw [hh] at h; cases h)
      refine Hs.rung0 [5, 8, 14, 18, 23, 29, 33] 300 (fun _ => by kernel_rfl) ?_
      refine Hs.callV (fun w' H => dused_any d1 s2 g w' ⟨by have := H.at 1 (by kernel_rfl : _ = some (HB.b true 96 (discSC d1 s2))); exact this, (N2.keeps.step H).mono (fun x hx => by rw [List.mem_singleton.1 hx]; exact wrN_mem.2 ⟨1, _, g, (by kernel_rfl : _ = some (HB.b true 96 (discSC d1 s2))), rfl, rfl, rfl⟩) |>.imp fun _ h => h.1.1⟩ (hI1.few (by omega))) (by kernel_rfl) ?_
      refine Hs.rung0 [5, 8, 14, 18, 23, 29, 33] 300 (fun _ => by kernel_rfl) ?_
      refine Hs.cond (IntKind.i64.wrap ((d1.out.length : Int) + (usedD d1 : Int)) != 0) (by kernel_rfl) (fun h => by rw [ho1, hu1] at h; exact absurd h (by decide)) (fun _ => ?_)
      refine Hs.run0 300 (fun _ => by kernel_rfl) ?_
      refine Hs.any [0, 1, 2] (by kernel_rfl) ?_
      refine Hs.run0 300 (fun _ => by kernel_rfl) ?_
      refine Hs.callV (fun w' H => dused_any d1 s2 g w' ⟨by have := H.at 1 (by kernel_rfl : _ = some (HB.b true 96 (discSC d1 s2))); exact this, (N2.keeps.step H).mono (fun x hx => by rw [List.mem_singleton.1 hx]; exact wrN_mem.2 ⟨1, _, g, (by kernel_rfl : _ = some (HB.b true 96 (discSC d1 s2))), rfl, rfl, rfl⟩) |>.imp fun _ h => h.1.1⟩ (hI1.few (by omega))) (by kernel_rfl) ?_
      refine Hs.run0 300 (fun _ => by kernel_rfl) ?_
      refine Hs.loop (by kernel_rfl) ?_
      exact Hs.goto (loopAt Tryz.f6 0) [0, 1, 2] [.b true 34 (lptySC x0 d0 s0), .b true 96 (discSC d1 s2), .b true 42 (ptySC ⟨co, ro, wi, he, ses, grp, sl, true⟩ 1)] [(2, .c (.p 0 0)), (5, .c (.p 2 0)), (7, .c (.v (.int .i64 (usedD d1 : Nat)))), (8, .c (.v (.int .i64 (d1.out.length : Nat)))), (85, .c (.v (.slice A xs.length cap))), (86, .c (.v (.int .i64 xs.length))), (87, .c (.v (.int .i64 (0 : Nat))))] (by kernel_rfl) (by decide) (by kernel_rfl) (by kernel_rfl) (fun _ => (by kernel_rfl)) (fun u => J h60 hbl d1 hI1 xs.length 0 (by omega) (by omega) b0 g p ⟨co, ro, wi, he, ses, grp, sl, true⟩ s2 w2 L2 rfl (N2.imp fun w h => ⟨h.1.1, trivial⟩) u)
end Go.Proofs.YtnfcdbjckdhieaaGreat
