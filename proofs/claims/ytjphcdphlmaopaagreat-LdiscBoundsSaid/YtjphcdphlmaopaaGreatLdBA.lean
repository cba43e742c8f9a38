/- Layer 16: nothing that waits is ever too much: the walk; for all settings and steps; no condition. -/
import Derived.Test.YtjphcdphlmaopaaGreatEngAF
import Derived.Test.YtjphcdphlmaopaaGreatLdAZ
namespace Go.Proofs.YtjphcdphlmaopaaGreat
set_option linter.all false
set_option maxRecDepth 100000
open Go.RowKit

section
variable {P : Program} {f : FuncId} {R : Ending → World → Prop} {n : Nat} {w0 w00 : World} {L : List Nat} {β : List Nat} {m : SM} {F : World → Prop} {g : Nat}
/-- A step on a discipline of our own; whatever it answers. -/
theorem Hs.callNX {s : DS} {d d' : DM} {Fn : FuncId} {args : Array Value} (k : Nat) (C : Nx w00 w0 L (fun w => Data s d w ∧ F w)) (hβ : β[k]? = some g) (hk : m.hp[k]? = some (.b true 53 (discSC d s)))
    (hC : ∀ w, Mem w0 L β m.hp w → DAt w g d s → Calls P Fn args w (DoPost w g s d d')) (hc : callOf P n β m = some (Fn, args)) (hrd : rdOf m = []) (hwf : ∀ s1, (discSC d' s1).all (SC.wf m.hp.length) = true)
    (h : ∀ s1 v w1 L1, Nx w00 w1 L1 (fun w => Data s1 d' w ∧ F w) → Hs P f R n w1 L1 β (m.put (dstOf m) (.c (.v v)) (m.hp.set k (.b true 53 (discSC d' s1))))) : Hs P f R n w0 L β m :=
  Hs.callND k (fun x : DS × Value => x.2) (fun x => discSC d' x.1) (fun x => Data x.1 d') C hβ hk (fun w H hB hK => (hC w H ⟨hB, hK⟩).mono fun e w' ⟨v, s', h1, h2, h3, h4⟩ => ⟨(s', v), h1, h2, h3, h4⟩) hc hrd (fun x => hwf x.1) fun x w1 L1 C1 => h x.1 x.2 w1 L1 C1
end
theorem Nx.keepB {w w1 w2 : World} {L1 β : List Nat} {hp : List HB} {D1 : World → Prop} {A : Option Addr} {c : Nat} {l : List Int} (C : Nx w w1 L1 D1) (H : Mem w1 L1 β hp w2) {k g : Nat} {T : TypeId} {cs : List SC} (hβ : β[k]? = some g) (hk : hp[k]? = some (.b true T cs)) (h : RdU w A c l) : Keeps w2 [g] (fun w => RdU w A c l) := fun w3 O3 =>
  h.only (C.back w3 (H.only.trans O3 (fun x hx => by
    rw [List.mem_singleton.1 hx]
    exact Nx.key H g (wrN_mem.2 ⟨k, _, g, hk, hβ, rfl, rfl⟩))))
set_option maxHeartbeats 4000000 in
theorem bounds_walk (t : TM) (A : Option Addr) (cap : Nat) (xs : List OpM) (w : World) (ht : TOk t) (hl : RdOp w A cap xs ∧ ∀ x ∈ xs, OpOk x) : Calls Tryz.prog 8 #[t.val, .slice A xs.length cap] w (fun e w' => e = .returned (.bool true) ∧ Only [] w w') := by
  obtain ⟨hr, hok⟩ := hl
  have hm : xs.length ≤ maxLen := Nat.le_trans hr.le hr.cap
  have J : heavyB xs = false → ∀ (e i : Nat), xs.length - i = e → i ≤ xs.length → ∀ (b0 g : Nat) (s : DS) (d : DM) (w1 : World) (L1 : List Nat), (∃ b, Bd b d) → Nx w w1 L1 (fun w => Data s d w ∧ True) → ∀ (u : Nat → Value), Hs Tryz.prog 8 (fun e w' => e = .returned (.bool true) ∧ Only [] w w') (Tryz.f8).ntmps w1 L1 [b0, g] ⟨.no, loopAt Tryz.f8 0, pins [(5, .c (.p 1 0)), (14, .c (.v (.slice A xs.length cap))), (15, .c (.v (.int .i64 xs.length))), (16, .c (.v (.int .i64 i)))] (.vals u), [.b true 26 t.sc, .b true 53 (discSC d s)]⟩ := by
    intro hv e
    have hfew := heavy_few hv
    induction e with
    | zero =>
      intro i he hi b0 g s d w1 L1 hB N u
      obtain rfl : i = xs.length := by omega
      refine Hs.run0 300 (fun _ => by kernel_rfl) ?_
      refine Hs.condP ((xs.length : Int) < (xs.length : Int)) (by kernel_rfl) (fun h => by omega) (fun h => ?_)
      refine Hs.run0 300 (fun _ => by kernel_rfl) ?_
      exact Hs.ret (v := .bool true) Tryz.func8 (by kernel_rfl) fun w' H => ⟨rfl, N.only H⟩
    | succ e ihe =>
      intro i he hi b0 g s d w1 L1 hB N u
      have hil : i < xs.length := by omega
      obtain ⟨x, hx⟩ : ∃ x, xs[i]? = some x := ⟨_, List.getElem?_eq_getElem hil⟩
      have hxm : x ∈ xs := List.mem_of_getElem? hx
      obtain ⟨ab, aoff, hA, _, _⟩ := hr.rd (by omega)
      obtain ⟨bb, hbd⟩ := hB
      have hbn := hfew.2 x hxm
      have hbx := hr.all x hxm
      have hB2 := doD_bd (hok x hxm) hbd
      have hdo := fun w' hD hk => do_any16 d s g x w' hD hbd.few hbd.rng hbd.idle (hok x hxm) hk hbn
      generalize doD d x = d2 at hB2 hdo
      have hih := fun (b0 g : Nat) s w1 L1 N u => ihe (i + 1) (by omega) (by omega) b0 g s d2 w1 L1 hB2 N u
      obtain ⟨b2, hbd2⟩ := hB2
      have hrd := hr.rd
      rw [hA] at hih hrd ⊢
      refine Hs.run0 300 (fun _ => by kernel_rfl) ?_
      refine Hs.condP ((i : Int) < (xs.length : Int)) (by kernel_rfl) (fun h => ?_) (fun h => by omega)
      refine Hs.run0 300 (fun _ => by kernel_rfl) ?_
      refine Hs.idx (b := ab) (off := aoff) (c := cap) elemOp hil (by kernel_rfl) ?_
      refine Hs.ldx (cf := cOp) (size := 28) (E := 79) (b := ab) (off := aoff) (i := i) (l := xs) (x := x) cOp_len (.g x.sc) (by kernel_rfl) (fun w' H => hrd.only (N.only H)) hx (by kernel_rfl) (by kernel_rfl) rfl (by kernel_rfl) ?_
      refine Hs.run1 300 (fun _ => by kernel_rfl) fun b3 => ?_
      refine Hs.callNX (s := s) (d := d) (d' := d2) 1 N rfl (by kernel_rfl) (fun w' H hD => hdo w' hD (N.keepB H (k := 1) rfl (by kernel_rfl : _ = some (HB.b true 53 (discSC d s))) hbx)) (by kernel_rfl) (by kernel_rfl) (fun _ => (by kernel_rfl)) fun s2 v w2 L2 N2 => ?_
      refine Hs.run0 300 (fun _ => by kernel_rfl) ?_
      have hbl := hbd2.line
      have hbu := hbd2.used
      have hbr := hbd2.raw
      have hbo := hbd2.out
      have hbc := hbd2.col
      have hbi := hbd2.idle
      refine Hs.bool 29 (decide ((d2.line.length : Int) ≥ 255)) (by kernel_rfl) (fun h1 => by simp at h1; omega) (fun _ => ?_)
      refine Hs.rung0 [6] 300 (fun _ => by kernel_rfl) ?_
      refine Hs.callV (fun w' H => by
        have hd := (N2.now H).1
        have := used_any s2.sa s2.sc s2.xs w' hd.lines (by rw [hd.map]; omega)
        rw [hd.map, hd.llen] at this
        exact this) (by kernel_rfl) ?_
      refine Hs.rung0 [6] 300 (fun _ => by kernel_rfl) ?_
      refine Hs.bool 37 (decide ((usedM d2.lines : Int) > 1025)) (by kernel_rfl) (fun h1 => by simp at h1; omega) (fun _ => ?_)
      refine Hs.rung0 [6, 14] 300 (fun _ => by kernel_rfl) ?_
      refine Hs.bool 45 (decide ((d2.raw.length : Int) > 1024)) (by kernel_rfl) (fun h1 => by simp at h1; omega) (fun _ => ?_)
      refine Hs.rung0 [6, 14, 22] 300 (fun _ => by kernel_rfl) ?_
      refine Hs.bool 53 (decide ((d2.out.length : Int) > 4096)) (by kernel_rfl) (fun h1 => by simp at h1; omega) (fun _ => ?_)
      refine Hs.rung0 [6, 14, 22, 30] 300 (fun _ => by kernel_rfl) ?_
      refine Hs.bool 60 (decide (d2.idle < 0)) (by kernel_rfl) (fun h1 => by simp at h1; omega) (fun _ => ?_)
      refine Hs.rung0 [6, 14, 22, 30, 37] 300 (fun _ => by kernel_rfl) ?_
      refine Hs.bool 67 (decide (d2.idle > 1048576)) (by kernel_rfl) (fun h1 => by simp at h1; omega) (fun _ => ?_)
      refine Hs.rung0 [6, 14, 22, 30, 37, 44] 300 (fun _ => by kernel_rfl) ?_
      refine Hs.bool 74 (decide (d2.col < 0)) (by kernel_rfl) (fun h1 => by simp at h1; omega) (fun _ => ?_)
      refine Hs.rung0 [6, 14, 22, 30, 37, 44, 51] 300 (fun _ => by kernel_rfl) ?_
      refine Hs.condP (d2.col > 65535) (by kernel_rfl) (fun h1 => by omega) (fun _ => ?_)
      refine Hs.run0 300 (fun _ => by kernel_rfl) ?_
      refine Hs.slot 16 (.c (.v (.int .i64 (i + 1 : Nat)))) rfl ((by kernel_rfl : _ = Value.int .i64 (IntKind.i64.wrap ((i : Int) + 1))).trans (wrap_nextJ hm)) ?_
      refine Hs.loop (by kernel_rfl) ?_
      exact Hs.goto (loopAt Tryz.f8 0) [0, 1] [.b true 26 t.sc, .b true 53 (discSC d2 s2)] [(5, .c (.p 1 0)), (14, .c (.v (.slice (some ⟨ab, aoff, none⟩) xs.length cap))), (15, .c (.v (.int .i64 xs.length))), (16, .c (.v (.int .i64 (i + 1 : Nat))))] (by kernel_rfl) (by decide) (by kernel_rfl) (by kernel_rfl) (fun _ => (by kernel_rfl)) (fun u => hih b0 g s2 w2 L2 (N2.imp fun w h => ⟨h.1, trivial⟩) u)
  refine Hs.enter Tryz.func8 [] [] [] [.g t.sc, .c (.v (.slice A xs.length cap))] (Mem.start0 w) (by kernel_rfl) (by kernel_rfl) ?_
  refine Hs.run1 300 (fun _ => by kernel_rfl) fun b0 => ?_
  refine Hs.callV (fun w' H => alive16_any w') (by kernel_rfl) ?_
  refine Hs.run0 300 (fun _ => by kernel_rfl) ?_
  refine Hs.condF (by kernel_rfl) ?_
  refine Hs.run0 300 (fun _ => by kernel_rfl) ?_
  refine Hs.callV (fun w' H => heavy_any A cap xs w' (hr.only H.only)) (by kernel_rfl) ?_
  refine Hs.run0 300 (fun _ => by kernel_rfl) ?_
  refine Hs.cond (heavyB xs) (by kernel_rfl) (fun hv => ?_) (fun hv => ?_)
  · refine Hs.run0 300 (fun _ => by kernel_rfl) ?_
    exact Hs.ret (v := .bool true) Tryz.func8 (by kernel_rfl) fun w' H => ⟨rfl, H.only⟩
  refine Hs.run0 300 (fun _ => by kernel_rfl) ?_
  refine Hs.callB0 1 (fun _ => discSC (newD t) nilS) (Nx.start w) (fun w' H => new16_any t w') (fun β x => rfl) (fun x j => disc_wf _ _ _) (by kernel_rfl) (by kernel_rfl) fun g _ w1 L1 N1 => ?_
  refine Hs.run0 300 (fun _ => by kernel_rfl) ?_
  refine Hs.loop (by kernel_rfl) ?_
  exact Hs.goto (loopAt Tryz.f8 0) [0, 1] [.b true 26 t.sc, .b true 53 (discSC (newD t) nilS)] [(5, .c (.p 1 0)), (14, .c (.v (.slice A xs.length cap))), (15, .c (.v (.int .i64 xs.length))), (16, .c (.v (.int .i64 (0 : Nat))))] (by kernel_rfl) (by decide) (by kernel_rfl) (by kernel_rfl) (fun _ => (by kernel_rfl)) (fun u => J hv xs.length 0 (by omega) (by omega) b0 g nilS (newD t) w1 L1 ⟨_, newD_bd ht⟩ (N1.imp fun w _ => ⟨data_new t w, trivial⟩) u)
end Go.Proofs.YtjphcdphlmaopaaGreat
