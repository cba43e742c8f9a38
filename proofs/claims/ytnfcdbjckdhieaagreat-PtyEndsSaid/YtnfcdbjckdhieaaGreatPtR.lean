/- Layer 17: both ends are the discipline's: the walk; for all settings and bytes; no condition but what the arguments hold. -/
import Derived.Test.YtnfcdbjckdhieaaGreatPtQ
import Derived.Test.YtnfcdbjckdhieaaGreatPtM
namespace Go.Proofs.YtnfcdbjckdhieaaGreat
set_option linter.all false
set_option maxRecDepth 100000
open Go.RowKit

/-- What PtyEnds is handed. -/
structure ED where
  t : TM
  A : Option Addr
  a : Nat
  x : List Int
  B : Option Addr
  b : Nat
  y : List Int
  n : Int
def ED.sc (q : ED) : List SC := q.t.sc ++ [.v (.slice q.A q.x.length q.a), .v (.slice q.B q.y.length q.b), .v (.int .u8 q.n)]
def ED.cells (q : ED) : List Value := q.t.cells ++ [.slice q.A q.x.length q.a, .slice q.B q.y.length q.b, .int .u8 q.n]
/-- The same, where one block of ours may turn. -/
theorem Nx.keepO {w w1 w2 : World} {L1 β : List Nat} {hp : List HB} {D1 : World → Prop} {A : Option Addr} {c : Nat} {l : List Int} (C : Nx w w1 L1 D1) (H : Mem w1 L1 β hp w2) {k g : Nat} {T : TypeId} {cs : List SC} (hβ : β[k]? = some g) (hk : hp[k]? = some (.b true T cs)) (h : RdU w A c l) : Keeps w2 [g] (fun w => RdU w A c l) := fun w3 O3 =>
  h.only (C.back w3 (H.only.trans O3 (fun x hx => by
    rw [List.mem_singleton.1 hx]
    exact Nx.key H g (wrN_mem.2 ⟨k, _, g, hk, hβ, rfl, rfl⟩))))
def opnP : PM := ⟨0, 0, 0, 0, 0, 0, 1, false⟩
theorem ex17_open : openP (newP ⟨0, 0, 0, 0⟩) = (opnP, 0) := by kernel_rfl
set_option maxHeartbeats 8000000 in
theorem ends_walk (q : ED) (w : World) (hx : RdU w q.A q.a q.x) (hy : RdU w q.B q.b q.y) (ht : TOk q.t) (hn : 0 ≤ q.n ∧ q.n < 256) : Calls Tryz.prog 4 #[.agg q.cells.toArray] w (fun e w' => e = .returned (.bool true) ∧ Only [] w w') := by
  obtain ⟨t, A, a, x, B, b, y, n⟩ := q
  replace hx : RdU w A a x := hx
  replace hy : RdU w B b y := hy
  replace ht : TOk t := ht
  replace hn : 0 ≤ n ∧ n < 256 := hn
  have hlx : x.length ≤ maxLen := Nat.le_trans hx.2.1 hx.2.2
  obtain ⟨N, hN⟩ : ∃ N, N = IntKind.i64.wrap (1 + IntKind.i64.wrap n) := ⟨_, rfl⟩
  have hN1 : 1 ≤ N ∧ N ≤ 256 := by rw [hN, IntWalk.i64_in n (by omega), IntWalk.i64_in _ (by omega)]; omega
  -- the forty rounds
  have K : ∀ (e i : Nat), 40 - i = e → i ≤ 40 → ∀ (d : DM), Iv 20000 d → ∀ (b0 b1 g p g2 : Nat) (s1 s2 : DS) (w1 : World) (L1 : List Nat), Nx w w1 L1 (fun w => Data s1 d w ∧ Data s2 d w) → ∀ (u : Nat → Value), Hs Tryz.prog 4 (fun e w' => e = .returned (.bool true) ∧ Only [] w w') (Tryz.f4).ntmps w1 L1 [b0, b1, g, p, g2] ⟨.no, loopAt Tryz.f4 1, pins [(6, .c (.v (.int .u8 n))), (7, .c (.p 3 0)), (8, .c (.p 4 0)), (93, .c (.v (.int .i64 i)))] (.vals u), [.b true 49 (ED.sc ⟨t, A, a, x, B, b, y, n⟩), .b true 26 t.sc, .b true 96 (discSC d s1), .b true 42 (ptySC opnP 2), .b true 96 (discSC d s2)]⟩ := by
    intro e
    induction e with
    | zero =>
      intro i he hi d hI b0 b1 g p g2 s1 s2 w1 L1 N1 u
      obtain rfl : i = 40 := by omega
      refine Hs.run0 300 (fun _ => by kernel_rfl) ?_
      refine Hs.condF (by kernel_rfl) ?_
      refine Hs.run0 300 (fun _ => by kernel_rfl) ?_
      refine Hs.rung0 [5] 300 (fun _ => by kernel_rfl) ?_
      have hl := (hI.few (by omega)).lines
      refine Hs.callM N1 (fun w' H => from16_any d s1 g w' (N1.now H).1 (H.at (wr := true) (T := 96) (cs := discSC d s1) 2 (by kernel_rfl)) (by omega)) (by kernel_rfl) (by kernel_rfl) fun z1 w2 L2 N2 => ?_
      refine Hs.rung0 [5] 300 (fun _ => by kernel_rfl) ?_
      refine Hs.callM N2 (fun w' H => from16_any d s2 g2 w' (N2.now H).2.2 (H.at (wr := true) (T := 96) (cs := discSC d s2) 4 (by kernel_rfl)) (by omega)) (by kernel_rfl) (by kernel_rfl) fun z2 w3 L3 N3 => ?_
      refine Hs.rung0 [5] 300 (fun _ => by kernel_rfl) ?_
      refine Hs.callV (fun w' H => same16_any d (s1.at_ z1) (s2.at_ z2) w' ((N3.now H).2.2.1.at_ (N3.now H).2.1) ((N3.now H).2.2.2.at_ (N3.now H).1)) (by kernel_rfl) ?_
      refine Hs.rung0 [5] 300 (fun _ => by kernel_rfl) ?_
      exact Hs.ret (v := .bool true) Tryz.func4 (by kernel_rfl) fun w' H => ⟨rfl, N3.only H⟩
    | succ e ih =>
      intro i he hi d hI b0 b1 g p g2 s1 s2 w1 L1 N1 u
      have hil : i < 40 := by omega
      have hf := hI.few (by omega)
      obtain ⟨e1, hs1, hs2⟩ := sread_is (x := opnP) (d := d) (n := N) (q := 0) rfl
      have hps := fun p w' hP => psread_any N 0 opnP d s1 p g w' hP hf hI.rng ⟨by omega, by omega⟩ (by decide)
      have hds := fun s2 w' hD => read_any16 d s2 g2 N 0 w' hD hf hI.rng ⟨by omega, by omega⟩ (by decide)
      have hI2 := readD_iv (k := N) (q := 0) hI
      rw [hs1] at hps
      generalize readD d N 0 = r at hps hds hI2 hs2
      obtain ⟨d2, l1, ok⟩ := r
      replace hI2 : Iv 20000 d2 := hI2
      replace hs2 : (e1 == 0) = ok := hs2
      have hf2 := hI2.few (by omega)
      obtain ⟨e2, hm1, hm2⟩ := mread_is (x := opnP) (d := d2) (n := N) rfl (by decide) (by omega)
      have hpm := fun s1 p w' hP => pmread_any N opnP d2 s1 p g w' hP hf2
      have hdm := fun s2 w' hD => output_any d2 s2 g2 N w' hD hf2
      have hI3 := outputD_iv (k := N) hI2
      rw [hm1] at hpm
      generalize outputD d2 N = r2 at hpm hdm hI3 hm2
      obtain ⟨d3, l2⟩ := r2
      replace hI3 : Iv 20000 d3 := hI3
      replace hm2 : (e2 == 0) = decide ((l2.length : Int) > 0) := hm2
      have hih := fun b0 b1 g p g2 s1 s2 w1 L1 N u => ih (i + 1) (by omega) (by omega) d3 hI3 b0 b1 g p g2 s1 s2 w1 L1 N u
      clear ih
      refine Hs.run0 300 (fun _ => by kernel_rfl) ?_
      refine Hs.condP ((i : Int) < 40) (by kernel_rfl) (fun _ => ?_) (fun h => by omega)
      refine Hs.run0 300 (fun _ => by kernel_rfl) ?_
      refine Hs.slot 99 (.c (.v (.int .i64 N))) rfl ((by kernel_rfl : _ = Value.int .i64 (IntKind.i64.wrap (1 + IntKind.i64.wrap n))).trans (by rw [hN]; rfl)) ?_
      refine Hs.callNQ (X := SX) (x := opnP) (x' := opnP) (s := s1) (d := d) (d' := d2) (v := bytesV l1 e1) (Q := fun z w => RdU w z.1 z.2 l1) 3 2 N1 rfl rfl (by kernel_rfl) (by kernel_rfl) (by decide) (fun w' H hP => hps p w' hP) (by kernel_rfl) (by kernel_rfl) ⟨(by kernel_rfl), fun _ => (by kernel_rfl)⟩ fun s3 z1 w2 L2 N2 => ?_
      replace N2 := N2.imp fun w h => (⟨h.2, h.1⟩ : Data s2 d w ∧ (Data s3 d2 w ∧ RdU w z1.1 z1.2 l1))
      refine Hs.run0 300 (fun _ => by kernel_rfl) ?_
      refine Hs.slot 107 (.c (.v (.int .i64 N))) rfl ((by kernel_rfl : _ = Value.int .i64 (IntKind.i64.wrap (1 + IntKind.i64.wrap n))).trans (by rw [hN]; rfl)) ?_
      refine Hs.callNR (s := s2) (d := d) (d' := d2) (l := l1) (v := fun A c => .tuple #[.slice A l1.length c, .bool ok]) 4 N2 rfl (by kernel_rfl) (fun w' H hD => hds s2 w' hD) (by kernel_rfl) (by kernel_rfl) (fun _ => (by kernel_rfl)) fun s4 A4 c4 w3 L3 N3 => ?_
      replace N3 := N3.imp fun w h => (⟨h.2.1, h.1.1, h.1.2, h.2.2⟩ : Data s3 d2 w ∧ (Data s4 d2 w ∧ RdU w A4 c4 l1 ∧ RdU w z1.1 z1.2 l1))
      refine Hs.run0 300 (fun _ => by kernel_rfl) ?_
      refine Hs.slot 115 (.c (.v (.int .i64 N))) rfl ((by kernel_rfl : _ = Value.int .i64 (IntKind.i64.wrap (1 + IntKind.i64.wrap n))).trans (by rw [hN]; rfl)) ?_
      refine Hs.callNQ (X := SX) (x := opnP) (x' := opnP) (s := s3) (d := d2) (d' := d3) (v := bytesV l2 e2) (Q := fun z w => RdU w z.1 z.2 l2) 3 2 N3 rfl rfl (by kernel_rfl) (by kernel_rfl) (by decide) (fun w' H hP => hpm s3 p w' hP) (by kernel_rfl) (by kernel_rfl) ⟨(by kernel_rfl), fun _ => (by kernel_rfl)⟩ fun s5 z2 w4 L4 N4 => ?_
      replace N4 := N4.imp fun w h => (⟨h.2.1, h.1.1, h.1.2, h.2.2⟩ : Data s4 d2 w ∧ (Data s5 d3 w ∧ RdU w z2.1 z2.2 l2 ∧ RdU w A4 c4 l1 ∧ RdU w z1.1 z1.2 l1))
      refine Hs.run0 300 (fun _ => by kernel_rfl) ?_
      refine Hs.slot 122 (.c (.v (.int .i64 N))) rfl ((by kernel_rfl : _ = Value.int .i64 (IntKind.i64.wrap (1 + IntKind.i64.wrap n))).trans (by rw [hN]; rfl)) ?_
      refine Hs.callNR (s := s4) (d := d2) (d' := d3) (l := l2) (v := fun A c => .slice A l2.length c) 4 N4 rfl (by kernel_rfl) (fun w' H hD => hdm s4 w' hD) (by kernel_rfl) (by kernel_rfl) (fun _ => (by kernel_rfl)) fun s6 A6 c6 w5 L5 N5 => ?_
      refine Hs.run0 300 (fun _ => by kernel_rfl) ?_
      refine Hs.callV (fun w' H => bytes16_true z1.1 A4 z1.2 c4 l1 l1.length l1.length rfl rfl w' (N5.now H).2.2.2.2.1 (N5.now H).2.2.2.1.1 (Nat.le_trans (N5.now H).2.2.2.1.2.1 (N5.now H).2.2.2.1.2.2)) (by kernel_rfl) ?_
      refine Hs.rung0 [4] 300 (fun _ => by kernel_rfl) ?_
      refine Hs.bool 134 ((e1 == 0) != ok) (by kernel_rfl) (fun h => by rw [hs2] at h; simp at h) (fun _ => ?_)
      refine Hs.rung0 [4, 10] 300 (fun _ => by kernel_rfl) ?_
      refine Hs.callV (fun w' H => bytes16_true z2.1 A6 z2.2 c6 l2 l2.length l2.length rfl rfl w' (N5.now H).2.2.1.1 (N5.now H).1.2.1 (Nat.le_trans (N5.now H).1.2.2.1 (N5.now H).1.2.2.2)) (by kernel_rfl) ?_
      refine Hs.rung0 [4, 10, 16] 300 (fun _ => by kernel_rfl) ?_
      refine Hs.cond ((e2 == 0) != decide ((l2.length : Int) > 0)) (by kernel_rfl) (fun h => by rw [hm2] at h; simp at h) (fun _ => ?_)
      refine Hs.run0 300 (fun _ => by kernel_rfl) ?_
      refine Hs.slot 93 (.c (.v (.int .i64 (i + 1 : Nat)))) rfl ((by kernel_rfl : _ = Value.int .i64 (IntKind.i64.wrap ((i : Int) + 1))).trans (by rw [IntWalk.i64_in _ (by omega)]; rfl)) ?_
      refine Hs.loop (by kernel_rfl) ?_
      exact Hs.goto (loopAt Tryz.f4 1) [0, 1, 2, 3, 4] [.b true 49 (ED.sc ⟨t, A, a, x, B, b, y, n⟩), .b true 26 t.sc, .b true 96 (discSC d3 s5), .b true 42 (ptySC opnP 2), .b true 96 (discSC d3 s6)] [(6, .c (.v (.int .u8 n))), (7, .c (.p 3 0)), (8, .c (.p 4 0)), (93, .c (.v (.int .i64 (i + 1 : Nat))))] (by kernel_rfl) (by decide) (by kernel_rfl) (by kernel_rfl) (fun _ => (by kernel_rfl)) (fun u => hih b0 b1 g p g2 s5 s6 w5 L5 (N5.imp fun w h => ⟨h.2.1, h.1.1⟩) u)
  -- what is typed
  have J : ∀ (d1 : DM), d1 = typedD (newD t) x → (h1000 : x.length ≤ 1000) → (h1000y : y.length ≤ 1000) → ∀ (e i : Nat), x.length - i = e → i ≤ x.length → ∀ (d : DM), d = typedD (newD t) (x.take i) → ∀ (b0 b1 g p g2 : Nat) (s1 s2 : DS) (w1 : World) (L1 : List Nat), Nx w w1 L1 (fun w => Data s2 d w ∧ Data s1 d1 w) → ∀ (u : Nat → Value), Hs Tryz.prog 4 (fun e w' => e = .returned (.bool true) ∧ Only [] w w') (Tryz.f4).ntmps w1 L1 [b0, b1, g, p, g2] ⟨.no, loopAt Tryz.f4 0, pins [(4, .c (.v (.slice A x.length a))), (5, .c (.v (.slice B y.length b))), (6, .c (.v (.int .u8 n))), (7, .c (.p 3 0)), (8, .c (.p 4 0)), (9, .c (.v (.int .i64 x.length))), (54, .c (.v (.slice A x.length a))), (55, .c (.v (.int .i64 x.length))), (56, .c (.v (.int .i64 i)))] (.vals u), [.b true 49 (ED.sc ⟨t, A, a, x, B, b, y, n⟩), .b true 26 t.sc, .b true 96 (discSC d1 s1), .b true 42 (ptySC opnP 2), .b true 96 (discSC d s2)]⟩ := by
    intro d1 hd1 h1000 h1000y e
    induction e with
    | zero =>
      intro i he hi d hd b0 b1 g p g2 s1 s2 w1 L1 N1 u
      obtain rfl : i = x.length := by omega
      rw [List.take_length, ← hd1] at hd
      subst hd
      have hI : Iv 4000 d := by
        have := typedD_iv x (newD_iv ht)
        rw [← hd1] at this
        exact this.mono (by omega)
      have hf := hI.few (by omega)
      obtain ⟨e1, hw1, hw2⟩ := swrite_is (x := opnP) (d := d) (b := y) rfl
      have hpw := fun w' hP hk => pswrite_any B b y opnP d s1 p g w' hP hf hk (by omega)
      have hdw := fun w' hD hk => write_any16 d s2 g2 B b y w' hD hf hk (by omega)
      have hI2 := writeD_iv (l := y) hI
      rw [hw1] at hpw
      generalize writeD d y = d2 at hpw hdw hI2
      generalize fitN d y = k at hpw hdw hw2
      clear hd1
      refine Hs.run0 300 (fun _ => by kernel_rfl) ?_
      refine Hs.condP ((x.length : Int) < (x.length : Int)) (by kernel_rfl) (fun h => by omega) (fun _ => ?_)
      refine Hs.run0 300 (fun _ => by kernel_rfl) ?_
      refine Hs.callNQ (X := Unit) (x := opnP) (x' := opnP) (s := s1) (d := d) (d' := d2) (v := fun _ => .tuple #[.int .i64 k, .int .i64 e1]) (Q := QT) 3 2 (N1.imp fun w h => (⟨h.2, h.1⟩ : Data s1 d w ∧ Data s2 d w)) rfl rfl (by kernel_rfl) (by kernel_rfl) (by decide) (fun w' H hP => hpw w' hP (N1.keepP H (k1 := 3) (k2 := 2) rfl rfl (by kernel_rfl : _ = some (HB.b true 42 (ptySC opnP 2))) (by kernel_rfl : _ = some (HB.b true 96 (discSC d s1))) hy)) (by kernel_rfl) (by kernel_rfl) ⟨(by kernel_rfl), fun _ => (by kernel_rfl)⟩ fun s3 z1 w2 L2 N2 => ?_
      replace N2 := N2.imp fun w h => (⟨h.2, h.1.1⟩ : Data s2 d w ∧ Data s3 d2 w)
      refine Hs.run0 300 (fun _ => by kernel_rfl) ?_
      refine Hs.bool 74 ((x.length : Int) != (x.length : Int)) (by kernel_rfl) (fun h => by simp at h) (fun _ => ?_)
      refine Hs.rung0 [4] 300 (fun _ => by kernel_rfl) ?_
      refine Hs.callNP (s := s2) (d := d) (d' := d2) (v := .int .i64 k) 4 N2 rfl (by kernel_rfl) (fun w' H hD => hdw w' hD (N2.keepO H (k := 4) rfl (by kernel_rfl : _ = some (HB.b true 96 (discSC d s2))) hy)) (by kernel_rfl) (by kernel_rfl) (fun _ => (by kernel_rfl)) fun s4 w3 L3 N3 => ?_
      refine Hs.rung0 [4] 300 (fun _ => by kernel_rfl) ?_
      refine Hs.bool 81 ((k : Int) != (k : Int)) (by kernel_rfl) (fun h => by simp at h) (fun _ => ?_)
      refine Hs.rung0 [4, 11] 300 (fun _ => by kernel_rfl) ?_
      have fin : ∀ (u : Nat → Value), Hs Tryz.prog 4 (fun e w' => e = .returned (.bool true) ∧ Only [] w w') (Tryz.f4).ntmps w3 L3 [b0, b1, g, p, g2] ⟨.no, loopAt Tryz.f4 1, pins [(6, .c (.v (.int .u8 n))), (7, .c (.p 3 0)), (8, .c (.p 4 0)), (93, .c (.v (.int .i64 (0 : Nat))))] (.vals u), [.b true 49 (ED.sc ⟨t, A, a, x, B, b, y, n⟩), .b true 26 t.sc, .b true 96 (discSC d2 s3), .b true 42 (ptySC opnP 2), .b true 96 (discSC d2 s4)]⟩ := fun u => K 40 0 (by omega) (by omega) d2 (hI2.mono (by omega)) b0 b1 g p g2 s3 s4 w3 L3 (N3.imp fun w h => ⟨h.2, h.1⟩) u
      refine Hs.bool 86 ((k : Int) == 0) (by kernel_rfl) (fun hk => ?_) (fun hk => ?_)
      · refine Hs.rung0 [11, 16] 300 (fun _ => by kernel_rfl) ?_
        refine Hs.cond ((e1 != 0) != decide ((y.length : Int) > 0)) (by kernel_rfl) (fun h => by rw [hw2, hk] at h; simp at h) (fun _ => ?_)
        refine Hs.run0 300 (fun _ => by kernel_rfl) ?_
        refine Hs.loop (by kernel_rfl) ?_
        exact Hs.goto (loopAt Tryz.f4 1) [0, 1, 2, 3, 4] [.b true 49 (ED.sc ⟨t, A, a, x, B, b, y, n⟩), .b true 26 t.sc, .b true 96 (discSC d2 s3), .b true 42 (ptySC opnP 2), .b true 96 (discSC d2 s4)] [(6, .c (.v (.int .u8 n))), (7, .c (.p 3 0)), (8, .c (.p 4 0)), (93, .c (.v (.int .i64 (0 : Nat))))] (by kernel_rfl) (by decide) (by kernel_rfl) (by kernel_rfl) (fun _ => (by kernel_rfl)) fin
      · refine Hs.rung0 [11, 16] 300 (fun _ => by kernel_rfl) ?_
        refine Hs.cond ((e1 != 0) != false) (by kernel_rfl) (fun h => by rw [hw2, hk] at h; simp at h) (fun _ => ?_)
        refine Hs.run0 300 (fun _ => by kernel_rfl) ?_
        refine Hs.loop (by kernel_rfl) ?_
        exact Hs.goto (loopAt Tryz.f4 1) [0, 1, 2, 3, 4] [.b true 49 (ED.sc ⟨t, A, a, x, B, b, y, n⟩), .b true 26 t.sc, .b true 96 (discSC d2 s3), .b true 42 (ptySC opnP 2), .b true 96 (discSC d2 s4)] [(6, .c (.v (.int .u8 n))), (7, .c (.p 3 0)), (8, .c (.p 4 0)), (93, .c (.v (.int .i64 (0 : Nat))))] (by kernel_rfl) (by decide) (by kernel_rfl) (by kernel_rfl) (fun _ => (by kernel_rfl)) fin
    | succ e ih =>
      intro i he hi d hd b0 b1 g p g2 s1 s2 w1 L1 N1 u
      have hil : i < x.length := by omega
      obtain ⟨v, hv⟩ : ∃ v, x[i]? = some v := ⟨_, List.getElem?_eq_getElem hil⟩
      have htk : x.take (i + 1) = x.take i ++ [v] := by rw [List.take_add_one, hv]; rfl
      obtain ⟨ab, aoff, hA, _, _⟩ := hx.1 (by omega)
      have hI : Iv 4000 d := by
        have := typedD_iv (x.take i) (newD_iv ht)
        rw [← hd] at this
        exact this.mono (by rw [List.length_take]; omega)
      have hin := fun w' hD => input_any d s2 g2 v w' hD (hI.few (by omega))
      have hd2 : (inputD d v).1 = typedD (newD t) (x.take (i + 1)) := by rw [htk, typedD_snoc, ← hd]
      generalize (inputD d v).1 = d2 at hin hd2
      generalize (inputD d v).2 = sg at hin
      have hih := fun b0 b1 g p g2 s1 s2 w1 L1 N u => ih (i + 1) (by omega) (by omega) d2 hd2 b0 b1 g p g2 s1 s2 w1 L1 N u
      clear ih hd
      refine Hs.slot 54 (.c (.v (.slice (some ⟨ab, aoff, none⟩) x.length a))) rfl (by rw [← hA]; rfl) ?_
      refine Hs.run0 300 (fun _ => by kernel_rfl) ?_
      refine Hs.condP ((i : Int) < (x.length : Int)) (by kernel_rfl) (fun _ => ?_) (fun h => by omega)
      refine Hs.run0 300 (fun _ => by kernel_rfl) ?_
      refine Hs.idx (b := ab) (off := aoff) (len := x.length) (c := a) (i := i) elemU8 hil (by kernel_rfl) ?_
      refine Hs.run0 300 (fun _ => by kernel_rfl) ?_
      refine Hs.ldc (E' := 5) (b := ab) (off := aoff + i * 1) (.int .u8 v) (by kernel_rfl) (fun w' H => u8_cell (by rw [← hA]; exact hx.1.only (N1.only H)) hv) (by kernel_rfl) ?_
      refine Hs.run0 300 (fun _ => by kernel_rfl) ?_
      refine Hs.callNI (s := s2) (d := d) (d' := d2) (l := sg) 4 sg.length rfl N1 rfl (by kernel_rfl) (fun w' H hD => hin w' hD) (by kernel_rfl) (by kernel_rfl) (fun _ => (by kernel_rfl)) fun s3 A3 w2 L2 N2 => ?_
      refine Hs.run0 300 (fun _ => by kernel_rfl) ?_
      refine Hs.slot 54 (.c (.v (.slice A x.length a))) rfl (by rw [hA]; kernel_rfl) ?_
      refine Hs.slot 56 (.c (.v (.int .i64 (i + 1 : Nat)))) rfl ((by kernel_rfl : _ = Value.int .i64 (IntKind.i64.wrap ((i : Int) + 1))).trans (wrap_nextJ hlx)) ?_
      refine Hs.loop (by kernel_rfl) ?_
      exact Hs.goto (loopAt Tryz.f4 0) [0, 1, 2, 3, 4] [.b true 49 (ED.sc ⟨t, A, a, x, B, b, y, n⟩), .b true 26 t.sc, .b true 96 (discSC d1 s1), .b true 42 (ptySC opnP 2), .b true 96 (discSC d2 s3)] [(4, .c (.v (.slice A x.length a))), (5, .c (.v (.slice B y.length b))), (6, .c (.v (.int .u8 n))), (7, .c (.p 3 0)), (8, .c (.p 4 0)), (9, .c (.v (.int .i64 x.length))), (54, .c (.v (.slice A x.length a))), (55, .c (.v (.int .i64 x.length))), (56, .c (.v (.int .i64 (i + 1 : Nat))))] (by kernel_rfl) (by decide) (by kernel_rfl) (by kernel_rfl) (fun _ => (by kernel_rfl)) (fun u => hih b0 b1 g p g2 s1 s3 w2 L2 (N2.imp fun w h => ⟨h.1.1, h.2⟩) u)
  refine Hs.enter Tryz.func4 [] [] [] [.g (ED.sc ⟨t, A, a, x, B, b, y, n⟩)] (Mem.start0 w) (by kernel_rfl) (by kernel_rfl) ?_
  refine Hs.run1 300 (fun _ => by kernel_rfl) fun b0 => ?_
  refine Hs.callV (fun w' H => alive17_any w') (by kernel_rfl) ?_
  refine Hs.run0 300 (fun _ => by kernel_rfl) ?_
  refine Hs.condF (by kernel_rfl) ?_
  refine Hs.run0 300 (fun _ => by kernel_rfl) ?_
  refine Hs.any [0] (by kernel_rfl) ?_
  refine Hs.run1 300 (fun _ => by kernel_rfl) fun b1 => ?_
  refine Hs.bool 35 (decide ((x.length : Int) > 1000)) (by kernel_rfl) (fun h => ?_) (fun h1000 => ?_)
  · refine Hs.rung0 [3] 300 (fun _ => by kernel_rfl) ?_
    refine Hs.condT (by kernel_rfl) ?_
    refine Hs.run0 300 (fun _ => by kernel_rfl) ?_
    exact Hs.ret (v := .bool true) Tryz.func4 (by kernel_rfl) fun w' H => ⟨rfl, H.only⟩
  replace h1000 : ¬ (x.length : Int) > 1000 := by simpa using h1000
  refine Hs.rung0 [3] 300 (fun _ => by kernel_rfl) ?_
  refine Hs.condP ((y.length : Int) > 1000) (by kernel_rfl) (fun h => ?_) (fun h1000y => ?_)
  · refine Hs.run0 300 (fun _ => by kernel_rfl) ?_
    exact Hs.ret (v := .bool true) Tryz.func4 (by kernel_rfl) fun w' H => ⟨rfl, H.only⟩
  refine Hs.run0 300 (fun _ => by kernel_rfl) ?_
  refine Hs.callB2 2 (fun _ k => ptySC (newP ⟨0, 0, 0, 0⟩) k) (fun _ => discSC (newD t) nilS) (Nx.start w) (fun w' H => pnew_any t ⟨0, 0, 0, 0⟩ w') (fun β _ k g hk => by subst hk; rfl) (fun β s' => rfl) (fun _ j k hk => by simp [ptySC, SC.wf, blt_spec, hk]) (fun s' j => disc_wf _ _ _) (by kernel_rfl) (by kernel_rfl) (by kernel_rfl) fun p g _ w1 L1 N1 => ?_
  refine Hs.run0 300 (fun _ => by kernel_rfl) ?_
  refine Hs.callB 4 (fun _ => discSC (newD t) nilS) N1 (fun w' H => new16_any t w') (fun β x => rfl) (fun x j => disc_wf _ _ _) (by kernel_rfl) (by kernel_rfl) (by kernel_rfl) fun g2 _ w2 L2 N2 => ?_
  replace N2 := N2.imp fun w _ => (⟨data_new t w, data_new t w⟩ : Data nilS (newD t) w ∧ Data nilS (newD t) w)
  refine Hs.run0 300 (fun _ => by kernel_rfl) ?_
  refine Hs.callNQ (X := Unit) (x := newP ⟨0, 0, 0, 0⟩) (x' := opnP) (s := nilS) (d := newD t) (d' := newD t) (v := fun _ => .int .i64 0) (Q := QT) 3 2 N2 rfl rfl (by kernel_rfl) (by kernel_rfl) (by decide) (fun w' H hP => by
    have := popen_any (newP ⟨0, 0, 0, 0⟩) (newD t) nilS p g w' hP
    rw [ex17_open] at this
    exact this) (by kernel_rfl) (by kernel_rfl) ⟨(by kernel_rfl), fun _ => (by kernel_rfl)⟩ fun s3 z3 w3 L3 N3 => ?_
  refine Hs.run0 300 (fun _ => by kernel_rfl) ?_
  refine Hs.condF (by kernel_rfl) ?_
  refine Hs.run0 300 (fun _ => by kernel_rfl) ?_
  have hty := typeD_all x (newD_iv ht) (by omega)
  have hpw := fun w' hP hk => pmwrite_any A a x opnP (newD t) s3 p g w' hP (few_new t) hk (by omega)
  rw [show mwriteP opnP (newD t) x = typeD (newD t) x from rfl] at hpw
  generalize typeD (newD t) x = r at hty hpw
  obtain ⟨d1, k, sg⟩ := r
  obtain ⟨hd1, hk⟩ := hty
  replace hd1 : d1 = typedD (newD t) x := hd1
  replace hk : k = x.length := hk
  subst hk
  refine Hs.callNQ (X := SX) (x := opnP) (x' := opnP) (s := s3) (d := newD t) (d' := d1) (v := eventsV x.length (evL 0 sg)) (Q := fun z w => RdE w z (evL 0 sg)) 3 2 (N3.imp fun w h => (⟨h.1.1, h.2⟩ : Data s3 (newD t) w ∧ Data nilS (newD t) w)) rfl rfl (by kernel_rfl) (by kernel_rfl) (by decide) (fun w' H hP => hpw w' hP (N3.keepP H (k1 := 3) (k2 := 2) rfl rfl (by kernel_rfl : _ = some (HB.b true 42 (ptySC opnP 2))) (by kernel_rfl : _ = some (HB.b true 96 (discSC (newD t) s3))) hx)) (by kernel_rfl) (by kernel_rfl) ⟨(by kernel_rfl), fun _ => (by kernel_rfl)⟩ fun s4 z4 w4 L4 N4 => ?_
  refine Hs.run0 300 (fun _ => by kernel_rfl) ?_
  refine Hs.loop (by kernel_rfl) ?_
  exact Hs.goto (loopAt Tryz.f4 0) [0, 1, 2, 3, 4] [.b true 49 (ED.sc ⟨t, A, a, x, B, b, y, n⟩), .b true 26 t.sc, .b true 96 (discSC d1 s4), .b true 42 (ptySC opnP 2), .b true 96 (discSC (newD t) nilS)] [(4, .c (.v (.slice A x.length a))), (5, .c (.v (.slice B y.length b))), (6, .c (.v (.int .u8 n))), (7, .c (.p 3 0)), (8, .c (.p 4 0)), (9, .c (.v (.int .i64 x.length))), (54, .c (.v (.slice A x.length a))), (55, .c (.v (.int .i64 x.length))), (56, .c (.v (.int .i64 (0 : Nat))))] (by kernel_rfl) (by decide) (by kernel_rfl) (by kernel_rfl) (fun _ => (by kernel_rfl)) (fun u => J d1 hd1 (by omega) (by omega) x.length 0 (by omega) (by omega) (newD t) rfl b0 b1 g p g2 s4 nilS w4 L4 (N4.imp fun w h => ⟨h.2, h.1.1⟩) u)
end Go.Proofs.YtnfcdbjckdhieaaGreat
