/- Layer 17: events go to the group in front: the walk; for all terminals and steps; no condition but what they hold. -/
import Derived.Test.YtnfcdbjckdhieaaGreatPtL
namespace Go.Proofs.YtnfcdbjckdhieaaGreat
set_option linter.all false
set_option maxRecDepth 100000
open Go.RowKit

/-- What was handed in is read, still, where two blocks of ours may turn. -/
theorem Nx.keepP {w w1 w2 : World} {L1 β : List Nat} {hp : List HB} {D1 : World → Prop} {A : Option Addr} {c : Nat} {l : List Int} (C : Nx w w1 L1 D1) (H : Mem w1 L1 β hp w2) {k1 k2 p g : Nat} {T1 T2 : TypeId} {c1 c2 : List SC} (hb1 : β[k1]? = some p) (hb2 : β[k2]? = some g) (hk1 : hp[k1]? = some (.b true T1 c1)) (hk2 : hp[k2]? = some (.b true T2 c2)) (h : RdU w A c l) : Keeps w2 [p, g] (fun w => RdU w A c l) := fun w3 O3 =>
  h.only (C.back w3 (H.only.trans O3 (fun x hx => by
    simp only [List.mem_cons, List.not_mem_nil, or_false] at hx
    rcases hx with rfl | rfl
    · exact Nx.key H _ (wrN_mem.2 ⟨k1, _, _, hk1, hb1, rfl, rfl⟩)
    · exact Nx.key H _ (wrN_mem.2 ⟨k2, _, _, hk2, hb2, rfl, rfl⟩))))
def sixV : Value := .agg #[.int .i64 1, .int .i64 18, .int .i64 2, .int .i64 3, .int .i64 20, .int .i64 28]
set_option maxHeartbeats 8000000 in
theorem events_walk (x0 : PM) (d0 : DM) (s0 : DS) (A : Option Addr) (cap : Nat) (xs : List OQ) (w : World) (h : Data s0 d0 w) (hL : LenOk d0) (hm0 : -9223372036854775808 ≤ d0.t.mn ∧ d0.t.mn ≤ 9223372036854775807) (ht0 : -9223372036854775808 ≤ d0.t.tm ∧ d0.t.tm ≤ 9223372036854775807) (hi0 : -9223372036854775808 ≤ d0.idle ∧ d0.idle ≤ 9223372036854775807) (hx : RdOQ w A cap xs) (hok : ∀ x ∈ xs, OQOk x) : Calls Tryz.prog 7 #[.agg (lptyV x0 d0 s0).toArray, .slice A xs.length cap] w (fun e w' => e = .returned (.bool true) ∧ Only [] w w') := by
  have hm : xs.length ≤ maxLen := Nat.le_trans hx.le hx.cap
  have J : xs.length ≤ 60 → (∀ x ∈ xs, x.b.length ≤ 12000) → ∀ (e i : Nat), xs.length - i = e → i ≤ xs.length → ∀ (b0 g p : Nat) (x : PM) (d : DM) (s : DS) (w1 : World) (L1 : List Nat), Iv (14000 + i) d → Nx w w1 L1 (fun w => Data s d w ∧ True) → ∀ (u : Nat → Value), Hs Tryz.prog 7 (fun e w' => e = .returned (.bool true) ∧ Only [] w w') (Tryz.f7).ntmps w1 L1 [b0, g, p] ⟨.no, loopAt Tryz.f7 0, pins [(2, .c (.p 0 0)), (5, .c (.p 2 0)), (22, .c (.v (.slice A xs.length cap))), (23, .c (.v (.int .i64 xs.length))), (24, .c (.v (.int .i64 i)))] (.vals u), [.b true 34 (lptySC x0 d0 s0), .b true 96 (discSC d s), .b true 42 (ptySC x 1)]⟩ := by
    intro h60 hbl e
    induction e with
    | zero =>
      intro i hd hi b0 g p x d s w1 L1 hI N u
      obtain rfl : i = xs.length := by omega
      refine Hs.run0 300 (fun _ => by kernel_rfl) ?_
      refine Hs.condP ((xs.length : Int) < (xs.length : Int)) (by kernel_rfl) (fun h => by omega) (fun _ => ?_)
      refine Hs.run0 300 (fun _ => by kernel_rfl) ?_
      exact Hs.ret (v := .bool true) Tryz.func7 (by kernel_rfl) fun w' H => ⟨rfl, N.only H⟩
    | succ e ih =>
      intro i hd hi b0 g p x d s w1 L1 hI N u
      have hil : i < xs.length := by omega
      obtain ⟨y, hyi⟩ : ∃ y, xs[i]? = some y := ⟨_, List.getElem?_eq_getElem hil⟩
      have hym : y ∈ xs := List.mem_of_getElem? hyi
      obtain ⟨ab, aoff, hA, _, _⟩ := hx.rd (by omega)
      have hev := fun e => doP_ev (x := x) (d := d) (o := y) (e := e)
      have hI2 := doP_iv (x := x) (o := y) (by omega) (hok y hym) hI
      have hdo := fun w' hP hk => do17_any y x d s p g w' hP (hI.few (by omega)) hI.rng (hok y hym) hk (by have := hbl y hym; omega)
      generalize doP x d y = r at hev hI2 hdo
      obtain ⟨x2, d2, a⟩ := r
      replace hev : ∀ e ∈ a.ev, x.grp ≠ 0 ∧ e.1 = x.grp ∧ sigOk e.2 := fun e he => hev e he
      replace hI2 : Iv (14000 + (i + 1)) d2 := hI2
      have hih := fun b0 g p s w1 L1 N u => ih (i + 1) (by omega) (by omega) b0 g p x2 d2 s w1 L1 hI2 N u
      have hrx := hx.rd
      have hbx := hx.all y hym
      rw [hA] at hih hrx ⊢
      clear ih
      refine Hs.run0 300 (fun _ => by kernel_rfl) ?_
      refine Hs.condP ((i : Int) < (xs.length : Int)) (by kernel_rfl) (fun _ => ?_) (fun h => by omega)
      refine Hs.run0 300 (fun _ => by kernel_rfl) ?_
      refine Hs.idx (b := ab) (off := aoff) (len := xs.length) (c := cap) (i := i) elemOQ hil (by kernel_rfl) ?_
      refine Hs.ldx (cf := cOQ) (size := 32) (E := 80) (b := ab) (off := aoff) (i := i) (l := xs) (x := y) cOQ_len (.g y.sc) (by kernel_rfl) (fun w' H => hrx.only (N.only H)) hyi (by kernel_rfl) (by kernel_rfl) rfl (by kernel_rfl) ?_
      refine Hs.run1 300 (fun _ => by kernel_rfl) fun b3 => ?_
      refine Hs.callNQ (X := AX) (F := fun _ => True) (x := x) (x' := x2) (s := s) (d := d) (d' := d2) (v := ansV a) (Q := AnsAt a) 2 1 N rfl rfl (by kernel_rfl) (by kernel_rfl) (by decide) (fun w' H hP => hdo w' hP (N.keepP H (k1 := 2) (k2 := 1) rfl rfl (by kernel_rfl : _ = some (HB.b true 42 (ptySC x 1))) (by kernel_rfl : _ = some (HB.b true 96 (discSC d s))) hbx)) (by kernel_rfl) (by kernel_rfl) ⟨(by kernel_rfl), fun _ => (by kernel_rfl)⟩ fun s2 z w2 L2 N2 => ?_
      obtain ⟨z1, A5, c5⟩ := z
      have hE : RdE w2 (A5, c5) a.ev := N2.keeps.at.1.2.2
      have hem : a.ev.length ≤ maxLen := Nat.le_trans hE.2.1 hE.2.2
      refine Hs.run1 300 (fun _ => by kernel_rfl) fun b4 => ?_
      refine Hs.loop (by kernel_rfl) ?_
      have J2 : ∀ (e j : Nat), a.ev.length - j = e → j ≤ a.ev.length → ∀ (u : Nat → Value), Hs Tryz.prog 7 (fun e w' => e = .returned (.bool true) ∧ Only [] w w') (Tryz.f7).ntmps w2 L2 [b0, g, p] ⟨.no, loopAt Tryz.f7 1, pins [(2, .c (.p 0 0)), (5, .c (.p 2 0)), (8, .c (.v (.int .i64 x.grp))), (22, .c (.v (.slice (some ⟨ab, aoff, none⟩) xs.length cap))), (23, .c (.v (.int .i64 xs.length))), (24, .c (.v (.int .i64 i))), (36, .c (.v (.slice A5 a.ev.length c5))), (37, .c (.v (.int .i64 a.ev.length))), (38, .c (.v (.int .i64 j)))] (.vals u), [.b true 34 (lptySC x0 d0 s0), .b true 96 (discSC d2 s2), .b true 42 (ptySC x2 1)]⟩ := by
        intro e
        induction e with
        | zero =>
          intro j hd hj u
          obtain rfl : j = a.ev.length := by omega
          refine Hs.run0 300 (fun _ => by kernel_rfl) ?_
          refine Hs.condP ((a.ev.length : Int) < (a.ev.length : Int)) (by kernel_rfl) (fun h => by omega) (fun _ => ?_)
          refine Hs.run0 300 (fun _ => by kernel_rfl) ?_
          refine Hs.slot 24 (.c (.v (.int .i64 (i + 1 : Nat)))) rfl ((by kernel_rfl : _ = Value.int .i64 (IntKind.i64.wrap ((i : Int) + 1))).trans (wrap_nextJ hm)) ?_
          refine Hs.loop (by kernel_rfl) ?_
          exact Hs.goto (loopAt Tryz.f7 0) [0, 1, 2] [.b true 34 (lptySC x0 d0 s0), .b true 96 (discSC d2 s2), .b true 42 (ptySC x2 1)] [(2, .c (.p 0 0)), (5, .c (.p 2 0)), (22, .c (.v (.slice (some ⟨ab, aoff, none⟩) xs.length cap))), (23, .c (.v (.int .i64 xs.length))), (24, .c (.v (.int .i64 (i + 1 : Nat))))] (by kernel_rfl) (by decide) (by kernel_rfl) (by kernel_rfl) (fun _ => (by kernel_rfl)) (fun u => hih b0 g p s2 w2 L2 (N2.imp fun w h => ⟨h.1.1, trivial⟩) u)
        | succ e ih2 =>
          intro j hd hj u
          have hjl : j < a.ev.length := by omega
          obtain ⟨v, hv⟩ : ∃ v, a.ev[j]? = some v := ⟨_, List.getElem?_eq_getElem hjl⟩
          obtain ⟨hg, hv1, hv2⟩ := hev v (List.mem_of_getElem? hv)
          obtain ⟨v1, v2⟩ := v
          replace hv1 : v1 = x.grp := hv1
          subst hv1
          obtain ⟨eb, eo, hA5, _, _⟩ := hE.1 (by omega)
          replace hA5 : A5 = some ⟨eb, eo, none⟩ := hA5
          subst hA5
          have hih2 := fun u => ih2 (j + 1) (by omega) (by omega) u
          clear ih2
          refine Hs.run0 300 (fun _ => by kernel_rfl) ?_
          refine Hs.condP ((j : Int) < (a.ev.length : Int)) (by kernel_rfl) (fun _ => ?_) (fun h => by omega)
          refine Hs.run0 300 (fun _ => by kernel_rfl) ?_
          refine Hs.idx (b := eb) (off := eo) (len := a.ev.length) (c := c5) (i := j) (tS := 81) elemRev hjl (by kernel_rfl) ?_
          refine Hs.ldx (cf := cEv) (size := 2) (E := 98) (b := eb) (off := eo) (i := j) (l := a.ev) (x := (x.grp, v2)) cEv_len (.g [.v (.int .i64 x.grp), .v (.int .i64 v2)]) (by kernel_rfl) (fun w' H => (N2.now H).1.2.2.1) hv (by kernel_rfl) (by kernel_rfl) rfl (by kernel_rfl) ?_
          refine Hs.run1 300 (fun _ => by kernel_rfl) fun b5 => ?_
          have fin : ∀ (b5 : Nat) (v2 : Int) (u : Nat → Value), Hs Tryz.prog 7 (fun e w' => e = .returned (.bool true) ∧ Only [] w w') (Tryz.f7).ntmps w2 L2 [b0, g, p] ⟨.no, loopAt Tryz.f7 1, pins [(2, .c (.p 0 0)), (5, .c (.p 2 0)), (8, .c (.v (.int .i64 x.grp))), (22, .c (.v (.slice (some ⟨ab, aoff, none⟩) xs.length cap))), (23, .c (.v (.int .i64 xs.length))), (24, .c (.v (.int .i64 i))), (36, .c (.v (.slice (some ⟨eb, eo, none⟩) a.ev.length c5))), (37, .c (.v (.int .i64 a.ev.length))), (38, .c (.v (.int .i64 (j + 1 : Nat))))] (.vals u), [.b true 34 (lptySC x0 d0 s0), .b true 96 (discSC d2 s2), .b true 42 (ptySC x2 1)]⟩ := fun _ _ u => hih2 u
          rcases hv2 with hv2 | hv2 | hv2 | hv2 | hv2 | hv2 <;>
          (replace hv2 : v2 = _ := hv2
           subst hv2
           refine Hs.loop (by kernel_rfl) ?_
           refine Hs.run0 300 (fun _ => by kernel_rfl) ?_
           refine Hs.condT (by kernel_rfl) ?_
           refine Hs.rung0 [1] 300 (fun _ => by kernel_rfl) ?_
           refine Hs.loop (by kernel_rfl) ?_
           refine Hs.run0 300 (fun _ => by kernel_rfl) ?_
           refine Hs.condT (by kernel_rfl) ?_
           refine Hs.rung0 [1] 300 (fun _ => by kernel_rfl) ?_
           refine Hs.loop (by kernel_rfl) ?_
           refine Hs.run0 300 (fun _ => by kernel_rfl) ?_
           refine Hs.condT (by kernel_rfl) ?_
           refine Hs.rung0 [1] 300 (fun _ => by kernel_rfl) ?_
           refine Hs.loop (by kernel_rfl) ?_
           refine Hs.run0 300 (fun _ => by kernel_rfl) ?_
           refine Hs.condT (by kernel_rfl) ?_
           refine Hs.rung0 [1] 300 (fun _ => by kernel_rfl) ?_
           refine Hs.loop (by kernel_rfl) ?_
           refine Hs.run0 300 (fun _ => by kernel_rfl) ?_
           refine Hs.condT (by kernel_rfl) ?_
           refine Hs.rung0 [1] 300 (fun _ => by kernel_rfl) ?_
           refine Hs.loop (by kernel_rfl) ?_
           refine Hs.run0 300 (fun _ => by kernel_rfl) ?_
           refine Hs.condT (by kernel_rfl) ?_
           refine Hs.rung0 [1] 300 (fun _ => by kernel_rfl) ?_
           refine Hs.loop (by kernel_rfl) ?_
           refine Hs.run0 300 (fun _ => by kernel_rfl) ?_
           refine Hs.condF (by kernel_rfl) ?_
           refine Hs.rung0 [2] 300 (fun _ => by kernel_rfl) ?_
           refine Hs.bool 60 (x.grp == 0) (by kernel_rfl) (fun h => absurd (by simpa using h) hg) (fun _ => ?_)
           refine Hs.rung0 [2, 6] 300 (fun _ => by kernel_rfl) ?_
           refine Hs.cond (x.grp != x.grp) (by kernel_rfl) (fun h => by simp at h) (fun _ => ?_)
           refine Hs.run0 300 (fun _ => by kernel_rfl) ?_
           refine Hs.slot 38 (.c (.v (.int .i64 (j + 1 : Nat)))) rfl ((by kernel_rfl : _ = Value.int .i64 (IntKind.i64.wrap ((j : Int) + 1))).trans (wrap_nextJ hem)) ?_
           refine Hs.loop (by kernel_rfl) ?_
           exact Hs.goto (loopAt Tryz.f7 1) [0, 1, 2] [.b true 34 (lptySC x0 d0 s0), .b true 96 (discSC d2 s2), .b true 42 (ptySC x2 1)] [(2, .c (.p 0 0)), (5, .c (.p 2 0)), (8, .c (.v (.int .i64 x.grp))), (22, .c (.v (.slice (some ⟨ab, aoff, none⟩) xs.length cap))), (23, .c (.v (.int .i64 xs.length))), (24, .c (.v (.int .i64 i))), (36, .c (.v (.slice (some ⟨eb, eo, none⟩) a.ev.length c5))), (37, .c (.v (.int .i64 a.ev.length))), (38, .c (.v (.int .i64 (j + 1 : Nat))))] (by kernel_rfl) (by decide) (by kernel_rfl) (by kernel_rfl) (fun _ => (by kernel_rfl)) (fun u => fin 0 0 u))
      exact Hs.goto (loopAt Tryz.f7 1) [0, 1, 2] [.b true 34 (lptySC x0 d0 s0), .b true 96 (discSC d2 s2), .b true 42 (ptySC x2 1)] [(2, .c (.p 0 0)), (5, .c (.p 2 0)), (8, .c (.v (.int .i64 x.grp))), (22, .c (.v (.slice (some ⟨ab, aoff, none⟩) xs.length cap))), (23, .c (.v (.int .i64 xs.length))), (24, .c (.v (.int .i64 i))), (36, .c (.v (.slice A5 a.ev.length c5))), (37, .c (.v (.int .i64 a.ev.length))), (38, .c (.v (.int .i64 (0 : Nat))))] (by kernel_rfl) (by decide) (by kernel_rfl) (by kernel_rfl) (fun _ => (by kernel_rfl)) (fun u => J2 a.ev.length 0 (by omega) (by omega) u)
  refine Hs.enter Tryz.func7 [] [] [] [.g (lptySC x0 d0 s0), .c (.v (.slice A xs.length cap))] (Mem.start0 w) (by kernel_rfl) (by kernel_rfl) ?_
  refine Hs.run1 300 (fun _ => by kernel_rfl) fun b0 => ?_
  refine Hs.callV (fun w' H => alive17_any w') (by kernel_rfl) ?_
  refine Hs.run0 300 (fun _ => by kernel_rfl) ?_
  refine Hs.condF (by kernel_rfl) ?_
  refine Hs.run0 300 (fun _ => by kernel_rfl) ?_
  refine Hs.callV (fun w' H => great17_any x0 d0 s0 A cap xs w' (h.only17 H.only) (hx.only H.only)) (by kernel_rfl) ?_
  refine Hs.run0 300 (fun _ => by kernel_rfl) ?_
  refine Hs.cond (greatQ d0 xs) (by kernel_rfl) (fun hg => ?_) (fun hg => ?_)
  · refine Hs.run0 300 (fun _ => by kernel_rfl) ?_
    exact Hs.ret (v := .bool true) Tryz.func7 (by kernel_rfl) fun w' H => ⟨rfl, H.only⟩
  obtain ⟨hf, hu, ho, hz, h60, hbl⟩ := greatQ_few hL hg
  refine Hs.run0 300 (fun _ => by kernel_rfl) ?_
  refine Hs.callB2 1 (fun _ k => ptySC x0 k) (fun s' => discSC d0 s') (Nx.start w) (fun w' H => to17_any x0 d0 s0 w' (h.only17 H.only) hf) (fun β _ k g hk => by subst hk; rfl) (fun β s' => rfl) (fun _ j k hk => by simp [ptySC, SC.wf, blt_spec, hk]) (fun s' j => disc_wf _ _ _) (by kernel_rfl) (by kernel_rfl) (by kernel_rfl) fun p g s1 w1 L1 N1 => ?_
  refine Hs.run0 300 (fun _ => by kernel_rfl) ?_
  refine Hs.loop (by kernel_rfl) ?_
  exact Hs.goto (loopAt Tryz.f7 0) [0, 1, 2] [.b true 34 (lptySC x0 d0 s0), .b true 96 (discSC d0 s1), .b true 42 (ptySC x0 1)] [(2, .c (.p 0 0)), (5, .c (.p 2 0)), (22, .c (.v (.slice A xs.length cap))), (23, .c (.v (.int .i64 xs.length))), (24, .c (.v (.int .i64 (0 : Nat))))] (by kernel_rfl) (by decide) (by kernel_rfl) (by kernel_rfl) (fun _ => (by kernel_rfl)) (fun u => J h60 hbl xs.length 0 (by omega) (by omega) b0 g p x0 d0 s1 w1 L1 ⟨hu, hz, ho, hm0, ht0, hi0⟩ (N1.imp fun w h => ⟨h.1, trivial⟩) u)
end Go.Proofs.YtnfcdbjckdhieaaGreat
