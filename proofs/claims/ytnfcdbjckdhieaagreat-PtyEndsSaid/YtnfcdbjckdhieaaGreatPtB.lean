/- Layer 17: what is typed, read, written; sizes; the end; for all terminals; no condition but their size. -/
import Derived.Test.YtnfcdbjckdhieaaGreatPtA
namespace Go.Proofs.YtnfcdbjckdhieaaGreat
set_option linter.all false
set_option maxRecDepth 100000
open Go.RowKit

theorem hG2 {β : List Nat} {hp : List HB} {p g T1 T2 : Nat} {c1 c2 : List SC} (h0 : β[0]? = some p) (h1 : β[1]? = some g) (hk0 : hp[0]? = some (.b true T1 c1)) (hk1 : hp[1]? = some (.b true T2 c2)) : ∀ x ∈ [p, g], x ∈ wrN β hp := fun x hx => by
  simp only [List.mem_cons, List.not_mem_nil, or_false] at hx
  rcases hx with rfl | rfl
  · exact wrN_mem.2 ⟨0, _, _, hk0, h0, rfl, rfl⟩
  · exact wrN_mem.2 ⟨1, _, _, hk1, h1, rfl, rfl⟩
/-- A slice of ours stays with what a terminal's method leaves. -/
theorem PQ.ofS {α : Type} {cf : α → List Value} {E size nl cap : Nat} {A : Option Addr} {l : List α} {X : Type} {w w1 w' : World} {p g : Nat} {s0 s : DS} {d0 d : DM} {x : PM} {L1 β : List Nat} {hp : List HB} {D1 : World → Prop} {v : X → Value} {Q : X → World → Prop} (k : Nat) (z : X) (C : Gx w [p, g] (Data s0 d0) w1 L1 D1) (H : Mem w1 L1 β hp w') (h0 : β[0]? = some p) (h1 : β[1]? = some g) (hk0 : hp[0]? = some (.b true 42 (ptySC x 1))) (hk1 : hp[1]? = some (.b true 96 (discSC d s))) (hl : l.length = nl) (ek : hp[k]? = some (.s A cap nl E size (l.flatMap cf))) (hk : 2 ≤ k) (f : ∀ w, D1 w → RdX cf w A l ∧ nl ≤ cap ∧ cap ≤ maxLen → Data s d w ∧ Q z w) : PQ w p g s0 d0 x d v Q (.returned (v z)) w' := by
  refine ⟨(s, z), rfl, C.only H, ?_, ?_, fun L hL hg hk' => ?_⟩
  · have := H.at 0 hk0
    have e1 := nm_get h1
    rw [nm_get h0] at this
    have e : dens β (ptySC x 1) = ptyV x g := by
      show (SC.p 1 0).den β :: _ = _
      simp only [SC.den, e1]
      rfl
    rw [e] at this
    exact this
  · have := H.at 1 hk1
    rw [nm_get h1] at this
    exact this
  · refine (((C.turns H) L hL hg hk').and (Keeps.and (rdX_keeps (H.rdX k hl ek) fun a ha hx => ?_) (fun _ _ => H.capS k hl ek))).imp fun w h => f w h.1 h.2
    have hb : (HB.s A cap nl E size (l.flatMap cf)).blk (nm β k) = some a.block := by subst ha; rfl
    have hlt := hL _ hx
    rcases H.own k _ _ ek rfl hb with h | h
    · rcases C.mem _ h with h | h
      · simp only [List.mem_cons, List.not_mem_nil, or_false] at h
        rcases h with h | h
        · have := H.inj 0 k _ _ a.block hk0 ek (by rw [nm_get h0, h]; rfl) hb
          omega
        · have := H.inj 1 k _ _ a.block hk1 ek (by rw [nm_get h1, h]; rfl) hb
          omega
      · omega
    · have := C.size; omega
section
variable {P : Program} {f : FuncId} {R : Ending → World → Prop} {n : Nat} {w0 w00 : World} {L : List Nat} {β : List Nat} {m : SM} {D0 F : World → Prop} {g p : Nat} {x : PM}
theorem Hs.callGP {s : DS} {d d' : DM} {v : Value} {Fn : FuncId} {args : Array Value} (C : Gx w00 [p, g] D0 w0 L (fun w => Data s d w ∧ F w)) (h0 : β[0]? = some p) (h1 : β[1]? = some g) (hk0 : m.hp[0]? = some (.b true 42 (ptySC x 1))) (hk : m.hp[1]? = some (.b true 96 (discSC d s)))
    (hC : ∀ w, Mem w0 L β m.hp w → DAt w g d s → Calls P Fn args w (DPost w g s d d' v)) (hc : callOf P n β m = some (Fn, args)) (hrd : rdOf m = []) (hwf : ∀ s1, (discSC d' s1).all (SC.wf m.hp.length) = true)
    (h : ∀ s1 w1 L1, Gx w00 [p, g] D0 w1 L1 (fun w => Data s1 d' w ∧ F w) → Hs P f R n w1 L1 β (m.put (dstOf m) (.c (.v v)) (m.hp.set 1 (.b true 96 (discSC d' s1))))) : Hs P f R n w0 L β m :=
  Hs.callG 1 (fun _ : DS => v) (fun s1 => discSC d' s1) (fun s1 => Data s1 d') C (hG2 h0 h1 hk0 hk) h1 hk (fun w H hB hK => hC w H ⟨hB, hK⟩) hc hrd hwf h
theorem Hs.callGR {s : DS} {d d' : DM} {l : List Int} {v : Option Addr → Nat → Value} {Fn : FuncId} {args : Array Value} (C : Gx w00 [p, g] D0 w0 L (fun w => Data s d w ∧ F w)) (h0 : β[0]? = some p) (h1 : β[1]? = some g) (hk0 : m.hp[0]? = some (.b true 42 (ptySC x 1))) (hk : m.hp[1]? = some (.b true 96 (discSC d s)))
    (hC : ∀ w, Mem w0 L β m.hp w → DAt w g d s → Calls P Fn args w (RPost w g s d d' l v)) (hc : callOf P n β m = some (Fn, args)) (hrd : rdOf m = []) (hwf : ∀ s1, (discSC d' s1).all (SC.wf m.hp.length) = true)
    (h : ∀ s1 A c w1 L1, Gx w00 [p, g] D0 w1 L1 (fun w => (Data s1 d' w ∧ RdU w A c l) ∧ F w) → Hs P f R n w1 L1 β (m.put (dstOf m) (.c (.v (v A c))) (m.hp.set 1 (.b true 96 (discSC d' s1))))) : Hs P f R n w0 L β m :=
  Hs.callG 1 (fun y : DS × Option Addr × Nat => v y.2.1 y.2.2) (fun y => discSC d' y.1) (fun y w => Data y.1 d' w ∧ RdU w y.2.1 y.2.2 l) C (hG2 h0 h1 hk0 hk) h1 hk (fun w H hB hK => (hC w H ⟨hB, hK⟩).mono fun e w' ⟨s', A, c, h1, h2, h3, h4⟩ => ⟨(s', A, c), h1, h2, h3, h4⟩) hc hrd (fun x => hwf x.1) fun x w1 L1 C1 => h x.1 x.2.1 x.2.2 w1 L1 C1
theorem Hs.callGI {s : DS} {d d' : DM} {l : List Int} {Fn : FuncId} {args : Array Value} (C : Gx w00 [p, g] D0 w0 L (fun w => Data s d w ∧ F w)) (h0 : β[0]? = some p) (h1 : β[1]? = some g) (hk0 : m.hp[0]? = some (.b true 42 (ptySC x 1))) (hk : m.hp[1]? = some (.b true 96 (discSC d s)))
    (hC : ∀ w, Mem w0 L β m.hp w → DAt w g d s → Calls P Fn args w (IPost w g s d d' l)) (hc : callOf P n β m = some (Fn, args)) (hrd : rdOf m = []) (hwf : ∀ s1, (discSC d' s1).all (SC.wf m.hp.length) = true)
    (h : ∀ s1 A w1 L1, Gx w00 [p, g] D0 w1 L1 (fun w => (Data s1 d' w ∧ RdX ci64 w A l) ∧ F w) → Hs P f R n w1 L1 β (m.put (dstOf m) (.c (.v (.slice A l.length l.length))) (m.hp.set 1 (.b true 96 (discSC d' s1))))) : Hs P f R n w0 L β m :=
  Hs.callG 1 (fun x : DS × Option Addr => .slice x.2 l.length l.length) (fun x => discSC d' x.1) (fun x w => Data x.1 d' w ∧ RdX ci64 w x.2 l) C (hG2 h0 h1 hk0 hk) h1 hk (fun w H hB hK => (hC w H ⟨hB, hK⟩).mono fun e w' ⟨s', A, h1, h2, h3, h4⟩ => ⟨(s', A), h1, h2, h3, h4⟩) hc hrd (fun x => hwf x.1) fun x w1 L1 C1 => h x.1 x.2 w1 L1 C1
end
theorem Gx.disc {w w1 w' : World} {L1 β : List Nat} {hp : List HB} {x : PM} {d : DM} {s : DS} {p g : Nat} {D0 F : World → Prop} (C : Gx w [p, g] D0 w1 L1 (fun w => Data s d w ∧ F w)) (H : Mem w1 L1 β hp w') (h0 : β[0]? = some p) (h1 : β[1]? = some g) (hk0 : hp[0]? = some (.b true 42 (ptySC x 1))) (hk1 : hp[1]? = some (.b true 96 (discSC d s))) : DAt w' g d s :=
  ⟨by have := H.at 1 hk1; rw [nm_get h1] at this; exact this, (C.keepsAt H fun y hy => Nx.key H y (hG2 h0 h1 hk0 hk1 y (by simp [List.mem_singleton.1 hy]))).imp fun _ h => h.1⟩
theorem pdisc_any (x : PM) (p g : Nat) (w : World) (h : Blk w p 42 (ptyV x g)) : Calls Tryz.prog 38 #[.pointer (some ⟨p, 0, none⟩)] w fun e w' => e = .returned (.pointer (some ⟨g, 0, none⟩)) ∧ Only [] w w' := by
  refine Hs.enter Tryz.func38 [] [p] [.b false 42 (ptyRC x g)] [.c (.p 0 0)] (Mem.rdB1 w p h) (by kernel_rfl) (by kernel_rfl) ?_
  refine Hs.run0 300 (fun _ => by kernel_rfl) ?_
  refine Hs.condF (by kernel_rfl) ?_
  refine Hs.run0 300 (fun _ => by kernel_rfl) ?_
  exact Hs.ret (v := .pointer (some ⟨g, 0, none⟩)) Tryz.func38 (by kernel_rfl) fun w' H => ⟨rfl, H.only⟩
theorem mem_pty {w w1 : World} {L β : List Nat} {hp : List HB} {x : PM} {p g : Nat} (H : Mem w1 L β hp w) (h0 : β[0]? = some p) (h1 : β[1]? = some g) (hk0 : hp[0]? = some (.b true 42 (ptySC x 1))) : Blk w p 42 (ptyV x g) := by
  have := H.at 0 hk0
  have e1 := nm_get h1
  rw [nm_get h0] at this
  have e : dens β (ptySC x 1) = ptyV x g := by
    show (SC.p 1 0).den β :: _ = _
    simp only [SC.den, e1]
    rfl
  rw [e] at this
  exact this
def sreadP (x : PM) (d : DM) (n q : Int) : DM × List Int × Int := if x.hung then (d, [], 0) else if (readD d n q).2.2 then ((readD d n q).1, (readD d n q).2.1, 0) else ((readD d n q).1, [], 10)
def bytesV (l : List Int) (e : Int) (z : SX) : Value := .tuple #[.slice z.1 l.length z.2, .int .i64 e]
theorem psread_any (n q : Int) (x : PM) (d : DM) (s : DS) (p g : Nat) (w : World) (h : PAt w p g x d s) (hf : Few d) (hR : Rng d) (hn : -9223372036854775808 ≤ n ∧ n ≤ 9223372036854775807) (hq : -9223372036854775808 ≤ q ∧ q ≤ 9223372036854775807) : Calls Tryz.prog 19 #[.pointer (some ⟨p, 0, none⟩), .int .i64 n, .int .i64 q] w (PQ w p g s d x (sreadP x d n q).1 (bytesV (sreadP x d n q).2.1 (sreadP x d n q).2.2) fun z w => RdU w z.1 z.2 (sreadP x d n q).2.1) := by
  have C := h.gx
  refine Hs.enter Tryz.func19 [p, g] [p, g] [.b true 42 (ptySC x 1), .b true 96 (discSC d s)] [.c (.p 0 0), .c (.v (.int .i64 n)), .c (.v (.int .i64 q))] h.mem (by kernel_rfl) (by kernel_rfl) ?_
  unfold sreadP
  refine Hs.run0 300 (fun _ => by kernel_rfl) ?_
  refine Hs.condF (by kernel_rfl) ?_
  refine Hs.run0 300 (fun _ => by kernel_rfl) ?_
  refine Hs.cond x.hung (by kernel_rfl) (fun h1 => ?_) (fun h1 => ?_)
  · rw [if_pos h1]
    refine Hs.run0 300 (fun _ => by kernel_rfl) ?_
    exact Hs.ret (v := .tuple #[.slice none 0 0, .int .i64 0]) Tryz.func19 (by kernel_rfl) fun w' H => PQ.of (s := s) (d := d) (x := x) (none, 0) C H rfl rfl (by kernel_rfl) (by kernel_rfl) fun w h => ⟨h, rdU_nil w⟩
  rw [if_neg (by rw [h1]; decide)]
  refine Hs.run0 300 (fun _ => by kernel_rfl) ?_
  refine Hs.callV (fun w' H => pdisc_any x p g w' (mem_pty H rfl rfl (by kernel_rfl))) (by kernel_rfl) ?_
  refine Hs.run0 300 (fun _ => by kernel_rfl) ?_
  refine Hs.callGR (x := x) (F := fun _ => True) (s := s) (d := d) (d' := (readD d n q).1) (l := (readD d n q).2.1) (v := fun A c => .tuple #[.slice A (readD d n q).2.1.length c, .bool (readD d n q).2.2]) (C.imp fun w h => ⟨h, trivial⟩) rfl rfl (by kernel_rfl) (by kernel_rfl) (fun w' H hD => read_any16 d s g n q w' hD hf hR hn hq) (by kernel_rfl) (by kernel_rfl) (fun _ => (by kernel_rfl)) fun s1 A5 c5 w1 L1 C1 => ?_
  refine Hs.run0 300 (fun _ => by kernel_rfl) ?_
  refine Hs.cond (!(readD d n q).2.2) (by kernel_rfl) (fun h2 => ?_) (fun h2 => ?_)
  · rw [if_neg (by simpa using h2)]
    refine Hs.run0 300 (fun _ => by kernel_rfl) ?_
    exact Hs.ret (v := .tuple #[.slice none 0 0, .int .i64 10]) Tryz.func19 (by kernel_rfl) fun w' H => PQ.of (s := s1) (d := (readD d n q).1) (x := x) (none, 0) C1 H rfl rfl (by kernel_rfl) (by kernel_rfl) fun w h => ⟨h.1.1, rdU_nil w⟩
  · rw [if_pos (by simpa using h2)]
    refine Hs.run0 300 (fun _ => by kernel_rfl) ?_
    exact Hs.ret (v := .tuple #[.slice A5 (readD d n q).2.1.length c5, .int .i64 0]) Tryz.func19 (by kernel_rfl) fun w' H => PQ.of (s := s1) (d := (readD d n q).1) (x := x) (A5, c5) C1 H rfl rfl (by kernel_rfl) (by kernel_rfl) fun w h => ⟨h.1.1, h.1.2⟩
def mreadP (x : PM) (d : DM) (n : Int) : DM × List Int × Int := if x.hung then (d, [], 11) else if ((outputD d n).2.length : Int) > 0 then ((outputD d n).1, (outputD d n).2, 0) else if x.sl ≤ 0 ∧ ((outputD d n).1.out.length : Int) = 0 then ((outputD d n).1, [], 11) else if n > 0 then ((outputD d n).1, [], 10) else ((outputD d n).1, [], 0)
theorem pmread_any (n : Int) (x : PM) (d : DM) (s : DS) (p g : Nat) (w : World) (h : PAt w p g x d s) (hf : Few d) : Calls Tryz.prog 21 #[.pointer (some ⟨p, 0, none⟩), .int .i64 n] w (PQ w p g s d x (mreadP x d n).1 (bytesV (mreadP x d n).2.1 (mreadP x d n).2.2) fun z w => RdU w z.1 z.2 (mreadP x d n).2.1) := by
  have C := h.gx
  refine Hs.enter Tryz.func21 [p, g] [p, g] [.b true 42 (ptySC x 1), .b true 96 (discSC d s)] [.c (.p 0 0), .c (.v (.int .i64 n))] h.mem (by kernel_rfl) (by kernel_rfl) ?_
  unfold mreadP
  refine Hs.run0 300 (fun _ => by kernel_rfl) ?_
  refine Hs.condF (by kernel_rfl) ?_
  refine Hs.run0 300 (fun _ => by kernel_rfl) ?_
  refine Hs.cond x.hung (by kernel_rfl) (fun h1 => ?_) (fun h1 => ?_)
  · rw [if_pos h1]
    refine Hs.run0 300 (fun _ => by kernel_rfl) ?_
    exact Hs.ret (v := .tuple #[.slice none 0 0, .int .i64 11]) Tryz.func21 (by kernel_rfl) fun w' H => PQ.of (s := s) (d := d) (x := x) (none, 0) C H rfl rfl (by kernel_rfl) (by kernel_rfl) fun w h => ⟨h, rdU_nil w⟩
  rw [if_neg (by rw [h1]; decide)]
  refine Hs.run0 300 (fun _ => by kernel_rfl) ?_
  refine Hs.callV (fun w' H => pdisc_any x p g w' (mem_pty H rfl rfl (by kernel_rfl))) (by kernel_rfl) ?_
  refine Hs.run0 300 (fun _ => by kernel_rfl) ?_
  refine Hs.callGR (x := x) (F := fun _ => True) (s := s) (d := d) (d' := (outputD d n).1) (l := (outputD d n).2) (v := fun A c => .slice A (outputD d n).2.length c) (C.imp fun w h => ⟨h, trivial⟩) rfl rfl (by kernel_rfl) (by kernel_rfl) (fun w' H hD => output_any d s g n w' hD hf) (by kernel_rfl) (by kernel_rfl) (fun _ => (by kernel_rfl)) fun s1 A5 c5 w1 L1 C1 => ?_
  refine Hs.run0 300 (fun _ => by kernel_rfl) ?_
  refine Hs.condP (((outputD d n).2.length : Int) > 0) (by kernel_rfl) (fun h2 => ?_) (fun h2 => ?_)
  · rw [if_pos h2]
    refine Hs.run0 300 (fun _ => by kernel_rfl) ?_
    exact Hs.ret (v := .tuple #[.slice A5 (outputD d n).2.length c5, .int .i64 0]) Tryz.func21 (by kernel_rfl) fun w' H => PQ.of (s := s1) (d := (outputD d n).1) (x := x) (A5, c5) C1 H rfl rfl (by kernel_rfl) (by kernel_rfl) fun w h => ⟨h.1.1, h.1.2⟩
  rw [if_neg h2]
  generalize (outputD d n).1 = d2 at C1 ⊢
  refine Hs.run0 300 (fun _ => by kernel_rfl) ?_
  refine Hs.bool 29 (decide (x.sl ≤ 0)) (by kernel_rfl) (fun h3 => ?_) (fun h3 => ?_)
  · replace h3 : x.sl ≤ 0 := by simpa using h3
    refine Hs.rung0 [5] 300 (fun _ => by kernel_rfl) ?_
    refine Hs.cond ((d2.out.length : Int) == 0) (by kernel_rfl) (fun h4 => ?_) (fun h4 => ?_)
    · replace h4 : (d2.out.length : Int) = 0 := by simpa using h4
      rw [if_pos ⟨h3, h4⟩]
      refine Hs.run0 300 (fun _ => by kernel_rfl) ?_
      exact Hs.ret (v := .tuple #[.slice none 0 0, .int .i64 11]) Tryz.func21 (by kernel_rfl) fun w' H => PQ.of (s := s1) (d := d2) (x := x) (none, 0) C1 H rfl rfl (by kernel_rfl) (by kernel_rfl) fun w h => ⟨h.1.1, rdU_nil w⟩
    replace h4 : ¬ (d2.out.length : Int) = 0 := by simpa using h4
    rw [if_neg fun h => h4 h.2]
    refine Hs.run0 300 (fun _ => by kernel_rfl) ?_
    refine Hs.condP (n > 0) (by kernel_rfl) (fun h5 => ?_) (fun h5 => ?_)
    · rw [if_pos h5]
      refine Hs.run0 300 (fun _ => by kernel_rfl) ?_
      exact Hs.ret (v := .tuple #[.slice none 0 0, .int .i64 10]) Tryz.func21 (by kernel_rfl) fun w' H => PQ.of (s := s1) (d := d2) (x := x) (none, 0) C1 H rfl rfl (by kernel_rfl) (by kernel_rfl) fun w h => ⟨h.1.1, rdU_nil w⟩
    · rw [if_neg h5]
      refine Hs.run0 300 (fun _ => by kernel_rfl) ?_
      exact Hs.ret (v := .tuple #[.slice none 0 0, .int .i64 0]) Tryz.func21 (by kernel_rfl) fun w' H => PQ.of (s := s1) (d := d2) (x := x) (none, 0) C1 H rfl rfl (by kernel_rfl) (by kernel_rfl) fun w h => ⟨h.1.1, rdU_nil w⟩
  · replace h3 : ¬ x.sl ≤ 0 := by simpa using h3
    rw [if_neg fun h => h3 h.1]
    refine Hs.rung0 [5] 300 (fun _ => by kernel_rfl) ?_
    refine Hs.condF (by kernel_rfl) ?_
    refine Hs.run0 300 (fun _ => by kernel_rfl) ?_
    refine Hs.condP (n > 0) (by kernel_rfl) (fun h5 => ?_) (fun h5 => ?_)
    · rw [if_pos h5]
      refine Hs.run0 300 (fun _ => by kernel_rfl) ?_
      exact Hs.ret (v := .tuple #[.slice none 0 0, .int .i64 10]) Tryz.func21 (by kernel_rfl) fun w' H => PQ.of (s := s1) (d := d2) (x := x) (none, 0) C1 H rfl rfl (by kernel_rfl) (by kernel_rfl) fun w h => ⟨h.1.1, rdU_nil w⟩
    · rw [if_neg h5]
      refine Hs.run0 300 (fun _ => by kernel_rfl) ?_
      exact Hs.ret (v := .tuple #[.slice none 0 0, .int .i64 0]) Tryz.func21 (by kernel_rfl) fun w' H => PQ.of (s := s1) (d := d2) (x := x) (none, 0) C1 H rfl rfl (by kernel_rfl) (by kernel_rfl) fun w h => ⟨h.1.1, rdU_nil w⟩
/-- What bytes that are typed make: how many are taken, the signals. -/
def typeD (d : DM) : List Int → DM × Nat × List Int
  | [] => (d, 0, [])
  | c :: l => if ((usedD d : Nat) : Int) ≥ 4096 then (d, 0, []) else ((typeD (inputD d c).1 l).1, (typeD (inputD d c).1 l).2.1 + 1, (inputD d c).2 ++ (typeD (inputD d c).1 l).2.2)
def mwriteP (x : PM) (d : DM) (b : List Int) : DM × Nat × List Int := if x.hung then (d, 0, []) else typeD d b
def eventsV (n : Nat) (l : List (Int × Int)) (z : SX) : Value := .tuple #[.int .i64 n, .slice z.1 l.length z.2]
theorem evL_app (grp : Int) (a b : List Int) : evL grp (a ++ b) = evL grp a ++ evL grp b := by
  unfold evL
  split
  · rfl
  · rw [List.map_append]
theorem evL_le (grp : Int) (a : List Int) : (evL grp a).length ≤ a.length := by
  unfold evL
  split
  · exact Nat.zero_le _
  · rw [List.length_map]; exact Nat.le_refl _
theorem inputD_sl17 (d : DM) (c : Int) : (inputD d c).2.length ≤ 1 := by
  unfold inputD
  split
  · simp
  · split
    · simp
    · split
      · simp
      · split <;> simp
def usedV (g : Nat) : Value := .func (.func 33) #[.pointer (some ⟨g, 0, none⟩)] #[]
def inV (g : Nat) : Value := .func (.func 16) #[.pointer (some ⟨g, 0, none⟩)] #[]
set_option maxHeartbeats 4000000 in
theorem pmwrite_any (A : Option Addr) (c : Nat) (b : List Int) (x : PM) (d : DM) (s : DS) (p g : Nat) (w : World) (h : PAt w p g x d s) (hf : Few d) (hb : Keeps w [p, g] (fun w => RdU w A c b)) (hbl : b.length ≤ 20000) : Calls Tryz.prog 15 #[.pointer (some ⟨p, 0, none⟩), .slice A b.length c] w (PQ w p g s d x (mwriteP x d b).1 (eventsV (mwriteP x d b).2.1 (evL x.grp (mwriteP x d b).2.2)) fun z w => RdE w z (evL x.grp (mwriteP x d b).2.2)) := by
  have C := h.gx
  have hm : b.length ≤ maxLen := by unfold maxLen; omega
  obtain ⟨T, hT⟩ : ∃ T, T = typeD d b := ⟨_, rfl⟩
  have J : ∀ (e i : Nat), b.length - i = e → i ≤ b.length → ∀ (d2 : DM) (s2 : DS) (sg : List Int), T = ((typeD d2 (b.drop i)).1, (typeD d2 (b.drop i)).2.1 + i, sg ++ (typeD d2 (b.drop i)).2.2) → Few d2 → sg.length ≤ i → ∀ (n4 : Nat), (evL x.grp sg).length = n4 → ∀ (A4 : Option Addr) (c4 : Nat) (w1 : World) (L1 : List Nat), Gx w [p, g] (Data s d) w1 L1 (fun w => Data s2 d2 w ∧ True) → ∀ (u : Nat → Value), Hs Tryz.prog 15 (PQ w p g s d x T.1 (eventsV T.2.1 (evL x.grp T.2.2)) fun z w => RdE w z (evL x.grp T.2.2)) (Tryz.f15).ntmps w1 L1 [p, g, 0] ⟨.no, loopAt Tryz.f15 0, pins [(0, .c (.p 0 0)), (1, .c (.v (.slice A b.length c))), (6, .c (.v (.slice A4 n4 c4))), (7, .c (.v (usedV g))), (8, .c (.v (inV g))), (25, .c (.v (.slice A b.length c))), (26, .c (.v (.int .i64 b.length))), (27, .c (.v (.int .i64 i)))] (.vals u), [.b true 42 (ptySC x 1), .b true 96 (discSC d2 s2), .s A4 c4 n4 46 2 ((evL x.grp sg).flatMap cEv)]⟩ := by
    intro e
    induction e with
    | zero =>
      intro i he hi d2 s2 sg hT2 hf2 hsg n4 hn4 A4 c4 w1 L1 C1 u
      obtain rfl : i = b.length := by omega
      rw [List.drop_length] at hT2
      have hT3 : T = (d2, b.length, sg) := by rw [hT2]; simp [typeD]
      clear hT2 hT
      subst hT3
      subst hn4
      refine Hs.run0 300 (fun _ => by kernel_rfl) ?_
      refine Hs.condP ((b.length : Int) < (b.length : Int)) (by kernel_rfl) (fun h => by omega) (fun _ => ?_)
      refine Hs.run0 300 (fun _ => by kernel_rfl) ?_
      exact Hs.ret (v := .tuple #[.int .i64 b.length, .slice A4 (evL x.grp sg).length c4]) Tryz.func15 (by kernel_rfl) fun w' H => PQ.ofS (cf := cEv) (E := 46) (size := 2) (s := s2) (d := d2) (x := x) 2 (A4, c4) C1 H rfl rfl (by kernel_rfl) (by kernel_rfl) rfl (by kernel_rfl : _ = some (HB.s A4 c4 (evL x.grp sg).length 46 2 ((evL x.grp sg).flatMap cEv))) (by decide) fun w h1 h2 => ⟨h1.1, h2⟩
    | succ e ih =>
      intro i he hi d2 s2 sg hT2 hf2 hsg n4 hn4 A4 c4 w1 L1 C1 u
      have hil : i < b.length := by omega
      obtain ⟨y, hy⟩ : ∃ y, b[i]? = some y := ⟨_, List.getElem?_eq_getElem hil⟩
      have hdr : b.drop i = y :: b.drop (i + 1) := by
        rw [List.drop_eq_getElem_cons hil]
        rw [List.getElem?_eq_getElem hil] at hy
        injection hy with hy
        rw [hy]
      rw [hdr] at hT2
      obtain ⟨ab, aoff, hA, _, _⟩ := hb.at.1 (by omega)
      by_cases h2 : ((usedD d2 : Nat) : Int) ≥ 4096
      · have hT3 : T = (d2, i, sg) := by rw [hT2]; simp [typeD, h2]
        clear hT2 hT ih
        subst hT3
        subst hn4
        rw [hA]
        refine Hs.run0 300 (fun _ => by kernel_rfl) ?_
        refine Hs.condP ((i : Int) < (b.length : Int)) (by kernel_rfl) (fun _ => ?_) (fun h => by omega)
        refine Hs.run0 300 (fun _ => by kernel_rfl) ?_
        refine Hs.idx (b := ab) (off := aoff) (len := b.length) (c := c) (i := i) elemU8 hil (by kernel_rfl) ?_
        refine Hs.run0 300 (fun _ => by kernel_rfl) ?_
        refine Hs.ldc (E' := 5) (b := ab) (off := aoff + i * 1) (.int .u8 y) (by kernel_rfl) (fun w' H => u8_cell (by rw [← hA]; exact (hb w' (C1.only H)).1) hy) (by kernel_rfl) ?_
        refine Hs.run0 300 (fun _ => by kernel_rfl) ?_
        refine Hs.callV (fun w' H => dused_any d2 s2 g w' (C1.disc (x := x) H rfl rfl (by kernel_rfl) (by kernel_rfl)) hf2) (by kernel_rfl) ?_
        refine Hs.run0 300 (fun _ => by kernel_rfl) ?_
        refine Hs.condP (((usedD d2 : Nat) : Int) ≥ 4096) (by kernel_rfl) (fun _ => ?_) (fun h => absurd h2 h)
        refine Hs.run0 300 (fun _ => by kernel_rfl) ?_
        exact Hs.ret (v := .tuple #[.int .i64 (i : Nat), .slice A4 (evL x.grp sg).length c4]) Tryz.func15 (by kernel_rfl) fun w' H => PQ.ofS (cf := cEv) (E := 46) (size := 2) (s := s2) (d := d2) (x := x) 2 (A4, c4) C1 H rfl rfl (by kernel_rfl) (by kernel_rfl) rfl (by kernel_rfl : _ = some (HB.s A4 c4 (evL x.grp sg).length 46 2 ((evL x.grp sg).flatMap cEv))) (by decide) fun w h1 h2 => ⟨h1.1, h2⟩
      have hT3 : T = ((typeD (inputD d2 y).1 (b.drop (i + 1))).1, (typeD (inputD d2 y).1 (b.drop (i + 1))).2.1 + (i + 1), (sg ++ (inputD d2 y).2) ++ (typeD (inputD d2 y).1 (b.drop (i + 1))).2.2) := by
        rw [hT2]
        simp only [typeD]
        rw [if_neg h2]
        simp only [List.append_assoc]
        congr 2
        omega
      have hin := fun w' hD => input_any d2 s2 g y w' hD hf2
      have hf3 : Few (inputD d2 y).1 := inputD_few hf2
      have hsl := inputD_sl17 d2 y
      generalize (inputD d2 y).1 = d3 at hin hf3 hT3
      generalize (inputD d2 y).2 = sg2 at hin hsl hT3
      have hel := evL_le x.grp sg
      have hel2 := evL_le x.grp sg2
      have hih := fun s2 n4 h A4 c4 w1 L1 C1 u => ih (i + 1) (by omega) (by omega) d3 s2 (sg ++ sg2) hT3 hf3 (by rw [List.length_append]; omega) n4 h A4 c4 w1 L1 C1 u
      rw [evL_app] at hih
      clear ih hT2 hT3 hT
      rw [hA] at hih ⊢
      refine Hs.run0 300 (fun _ => by kernel_rfl) ?_
      refine Hs.condP ((i : Int) < (b.length : Int)) (by kernel_rfl) (fun _ => ?_) (fun h => by omega)
      refine Hs.run0 300 (fun _ => by kernel_rfl) ?_
      refine Hs.idx (b := ab) (off := aoff) (len := b.length) (c := c) (i := i) elemU8 hil (by kernel_rfl) ?_
      refine Hs.run0 300 (fun _ => by kernel_rfl) ?_
      refine Hs.ldc (E' := 5) (b := ab) (off := aoff + i * 1) (.int .u8 y) (by kernel_rfl) (fun w' H => u8_cell (by rw [← hA]; exact (hb w' (C1.only H)).1) hy) (by kernel_rfl) ?_
      refine Hs.run0 300 (fun _ => by kernel_rfl) ?_
      refine Hs.callV (fun w' H => dused_any d2 s2 g w' (C1.disc (x := x) H rfl rfl (by kernel_rfl) (by kernel_rfl)) hf2) (by kernel_rfl) ?_
      refine Hs.run0 300 (fun _ => by kernel_rfl) ?_
      refine Hs.condP (((usedD d2 : Nat) : Int) ≥ 4096) (by kernel_rfl) (fun h => absurd h h2) (fun _ => ?_)
      refine Hs.run0 300 (fun _ => by kernel_rfl) ?_
      refine Hs.callGI (x := x) (F := fun _ => True) (s := s2) (d := d2) (d' := d3) (l := sg2) C1 rfl rfl (by kernel_rfl) (by kernel_rfl) (fun w' H hD => hin w' hD) (by kernel_rfl) (by kernel_rfl) (fun _ => (by kernel_rfl)) fun s3 A3 w2 L2 C2 => ?_
      refine Hs.run0 300 (fun _ => by kernel_rfl) ?_
      refine Hs.callGM (v := fun z : SX => .slice z.1 (evL x.grp sg2).length z.2) (Q := fun z w => RdE w z (evL x.grp sg2)) C2 (hG2 (T1 := 42) (T2 := 96) (c1 := ptySC x 1) (c2 := discSC d3 s3) rfl rfl (by kernel_rfl) (by kernel_rfl)) (fun w' H => pevents_any x p g A3 sg2.length sg2 w' (mem_pty H rfl rfl (by kernel_rfl)) (C2.now H).1.2 (by omega)) (by kernel_rfl) (by kernel_rfl) fun z w3 L3 C3 => ?_
      refine Hs.run0 300 (fun _ => by kernel_rfl) ?_
      refine Hs.app (cf := cEv) (c := z.2) (ty := 43) 2 elemEv (evL x.grp sg) (evL x.grp sg2) n4 (evL x.grp sg2).length hn4 rfl cEv_one cEv_len (A := A4) (B := z.1) (cap := c4) (by kernel_rfl) (by kernel_rfl) (by kernel_rfl) (fun w' H => (C3.now H).1.1) (by unfold maxLen; omega) (by rw [by_ev]; omega) fun A6 c6 h6 => ?_
      refine Hs.run0 300 (fun _ => by kernel_rfl) ?_
      refine Hs.slot 27 (.c (.v (.int .i64 (i + 1 : Nat)))) rfl ((by kernel_rfl : _ = Value.int .i64 (IntKind.i64.wrap ((i : Int) + 1))).trans (wrap_nextJ hm)) ?_
      refine Hs.loop (by kernel_rfl) ?_
      exact Hs.goto (loopAt Tryz.f15 0) [0, 1, 2] [.b true 42 (ptySC x 1), .b true 96 (discSC d3 s3), .s A6 c6 (n4 + (evL x.grp sg2).length) 46 2 ((evL x.grp sg ++ evL x.grp sg2).flatMap cEv)] [(0, .c (.p 0 0)), (1, .c (.v (.slice (some ⟨ab, aoff, none⟩) b.length c))), (6, .c (.v (.slice A6 (n4 + (evL x.grp sg2).length) c6))), (7, .c (.v (usedV g))), (8, .c (.v (inV g))), (25, .c (.v (.slice (some ⟨ab, aoff, none⟩) b.length c))), (26, .c (.v (.int .i64 b.length))), (27, .c (.v (.int .i64 (i + 1 : Nat))))] (by kernel_rfl) (by decide) (by kernel_rfl) (by kernel_rfl) (fun _ => (by kernel_rfl)) (fun u => hih s3 _ (by rw [List.length_append, hn4]) A6 c6 w3 L3 (C3.imp fun w h => ⟨h.2.1.1, trivial⟩) u)
  unfold mwriteP
  refine Hs.enter Tryz.func15 [p, g] [p, g] [.b true 42 (ptySC x 1), .b true 96 (discSC d s)] [.c (.p 0 0), .c (.v (.slice A b.length c))] h.mem (by kernel_rfl) (by kernel_rfl) ?_
  refine Hs.rung0 [2] 300 (fun _ => by kernel_rfl) ?_
  refine Hs.cond x.hung (by kernel_rfl) (fun h1 => ?_) (fun h1 => ?_)
  · rw [if_pos h1]
    have e0 : evL x.grp (d, (0 : Nat), ([] : List Int)).2.2 = [] := by unfold evL; split <;> rfl
    rw [e0]
    refine Hs.run0 300 (fun _ => by kernel_rfl) ?_
    exact Hs.ret (v := .tuple #[.int .i64 0, .slice none 0 0]) Tryz.func15 (by kernel_rfl) fun w' H => PQ.of (s := s) (d := d) (x := x) (none, 0) C H rfl rfl (by kernel_rfl) (by kernel_rfl) fun w h => ⟨h, rdX_nil, Nat.le_refl _, by unfold maxLen; omega⟩
  rw [if_neg (by rw [h1]; decide), ← hT]
  refine Hs.run0 300 (fun _ => by kernel_rfl) ?_
  refine Hs.callV (fun w' H => pdisc_any x p g w' (mem_pty H rfl rfl (by kernel_rfl))) (by kernel_rfl) ?_
  refine Hs.run0 300 (fun _ => by kernel_rfl) ?_
  refine Hs.callV (fun w' H => pdisc_any x p g w' (mem_pty H rfl rfl (by kernel_rfl))) (by kernel_rfl) ?_
  refine Hs.run0 300 (fun _ => by kernel_rfl) ?_
  refine Hs.nilS 46 2 (by kernel_rfl) ?_ (by kernel_rfl)
  refine Hs.loop (by kernel_rfl) ?_
  have e0 : evL x.grp [] = [] := by unfold evL; split <;> rfl
  have hJ := J b.length 0 (by omega) (by omega) d s [] (by rw [hT, List.drop_zero]; simp) hf (Nat.le_refl _) 0 (by rw [e0]; rfl) none 0 w [p, g] (C.imp fun w h => ⟨h, trivial⟩)
  rw [e0] at hJ
  exact Hs.goto (loopAt Tryz.f15 0) [0, 1, 2] [.b true 42 (ptySC x 1), .b true 96 (discSC d s), .s none 0 0 46 2 ((([] : List (Int × Int))).flatMap cEv)] [(0, .c (.p 0 0)), (1, .c (.v (.slice A b.length c))), (6, .c (.v (.slice none 0 0))), (7, .c (.v (usedV g))), (8, .c (.v (inV g))), (25, .c (.v (.slice A b.length c))), (26, .c (.v (.int .i64 b.length))), (27, .c (.v (.int .i64 (0 : Nat))))] (by kernel_rfl) (by decide) (by kernel_rfl) (by kernel_rfl) (fun _ => (by kernel_rfl)) (fun u => hJ u)
end Go.Proofs.YtnfcdbjckdhieaaGreat
