/- Layer 16: what a step does to a discipline; for all steps; no condition but their size. -/
import Derived.Test.YtjphcdphlmaopaaGreatLdOpn
import Derived.Test.YtjphcdphlmaopaaGreatLdAX
namespace Go.Proofs.YtjphcdphlmaopaaGreat
set_option linter.all false
set_option maxRecDepth 100000
open Go.RowKit

section
variable {P : Program} {f : FuncId} {R : Ending → World → Prop} {n : Nat} {w0 w00 : World} {L : List Nat} {β : List Nat} {m : SM} {D0 F : World → Prop} {g : Nat}
theorem Hs.callDR {s : DS} {d d' : DM} {l : List Int} {v : Option Addr → Nat → Value} {Fn : FuncId} {args : Array Value} (C : Cx w00 g D0 w0 L (fun w => Data s d w ∧ F w)) (hβ : β[0]? = some g) (hk : m.hp[0]? = some (.b true 53 (discSC d s)))
    (hC : ∀ w, Mem w0 L β m.hp w → DAt w g d s → Calls P Fn args w (RPost w g s d d' l v)) (hc : callOf P n β m = some (Fn, args)) (hrd : rdOf m = []) (hwf : ∀ s1, (discSC d' s1).all (SC.wf m.hp.length) = true)
    (h : ∀ s1 A c w1 L1, Cx w00 g D0 w1 L1 (fun w => (Data s1 d' w ∧ RdU w A c l) ∧ F w) → Hs P f R n w1 L1 β (m.put (dstOf m) (.c (.v (v A c))) (m.hp.set 0 (.b true 53 (discSC d' s1))))) : Hs P f R n w0 L β m :=
  Hs.callD 0 (fun x : DS × Option Addr × Nat => v x.2.1 x.2.2) (fun x => discSC d' x.1) (fun x w => Data x.1 d' w ∧ RdU w x.2.1 x.2.2 l) C hβ hk (fun w H hB hK => (hC w H ⟨hB, hK⟩).mono fun e w' ⟨s', A, c, h1, h2, h3, h4⟩ => ⟨(s', A, c), h1, h2, h3, h4⟩) hc hrd (fun x => hwf x.1) fun x w1 L1 C1 => h x.1 x.2.1 x.2.2 w1 L1 C1
theorem Hs.callDI {s : DS} {d d' : DM} {l : List Int} {Fn : FuncId} {args : Array Value} (nl : Nat) (hl : l.length = nl) (C : Cx w00 g D0 w0 L (fun w => Data s d w ∧ F w)) (hβ : β[0]? = some g) (hk : m.hp[0]? = some (.b true 53 (discSC d s)))
    (hC : ∀ w, Mem w0 L β m.hp w → DAt w g d s → Calls P Fn args w (IPost w g s d d' l)) (hc : callOf P n β m = some (Fn, args)) (hrd : rdOf m = []) (hwf : ∀ s1, (discSC d' s1).all (SC.wf m.hp.length) = true)
    (h : ∀ s1 A w1 L1, Cx w00 g D0 w1 L1 (fun w => (Data s1 d' w ∧ RdX ci64 w A l) ∧ F w) → Hs P f R n w1 L1 β (m.put (dstOf m) (.c (.v (.slice A nl nl))) (m.hp.set 0 (.b true 53 (discSC d' s1))))) : Hs P f R n w0 L β m := by
  subst hl
  exact Hs.callD 0 (fun x : DS × Option Addr => .slice x.2 l.length l.length) (fun x => discSC d' x.1) (fun x w => Data x.1 d' w ∧ RdX ci64 w x.2 l) C hβ hk (fun w H hB hK => (hC w H ⟨hB, hK⟩).mono fun e w' ⟨s', A, h1, h2, h3, h4⟩ => ⟨(s', A), h1, h2, h3, h4⟩) hc hrd (fun x => hwf x.1) fun x w1 L1 C1 => h x.1 x.2 w1 L1 C1
end
theorem by_int16 : Tryz.prog.bytesOf 3 = 8 := by kernel_rfl
theorem ci64_one (x : Int) : ∀ u ∈ ci64 x, u.oneCell' = true := by
  intro u hu
  simp only [ci64, List.mem_cons, List.not_mem_nil, or_false] at hu
  rw [hu]; rfl
theorem inputD_sl (d : DM) (c : Int) : (inputD d c).2.length ≤ 1 := by
  unfold inputD
  split
  · simp
  · split
    · simp
    · split
      · simp
      · split <;> simp
def inputsD (d : DM) (l : List Int) : DM := l.foldl (fun d c => (inputD d c).1) d
theorem inputsD_snoc (d : DM) (l : List Int) (c : Int) : inputsD d (l ++ [c]) = (inputD (inputsD d l) c).1 := by simp [inputsD]
theorem inputsD_few (l : List Int) : ∀ {d : DM}, Few d → Few (inputsD d l) := by
  induction l with
  | nil => exact fun h => h
  | cons c l ih => exact fun h => ih (inputD_few h)
/-- What a step does. -/
def doD (d : DM) (x : OpM) : DM := if x.k == 1 then inputsD d x.b else if x.k == 2 then writeD d x.b else if x.k == 3 then (outputD d x.n).1 else if x.k == 4 then (readD d x.n x.q).1 else if x.k == 5 then tickD d x.n else if x.k == 6 then setD d x.t else if x.k == 7 then (flushD d x.n).1 else if x.k == 8 then askD d x.n else d
/-- What a step leaves; whatever it answers. -/
def DoPost (w : World) (g : Nat) (s : DS) (d d' : DM) : Ending → World → Prop := fun e w' => ∃ v, DPost w g s d d' v e w'
structure OpOk (x : OpM) : Prop where
  n : -9223372036854775808 ≤ x.n ∧ x.n ≤ 9223372036854775807
  q : -9223372036854775808 ≤ x.q ∧ x.q ≤ 9223372036854775807
  t : TOk x.t
set_option maxHeartbeats 4000000 in
theorem do_any16 (d : DM) (s : DS) (g : Nat) (x : OpM) (w : World) (h : DAt w g d s) (hf : Few d) (hR : Rng d) (hi : 0 ≤ d.idle ∧ d.idle ≤ 1048576) (hx : OpOk x) (hb : Keeps w [g] (fun w => RdU w x.A x.c x.b)) (hbl : x.b.length ≤ 3000) : Calls Tryz.prog 30 #[.pointer (some ⟨g, 0, none⟩), x.val] w (DoPost w g s d (doD d x)) := by
  have C := Cx.start h.data (Blk.lt h.blk)
  have hm : x.b.length ≤ maxLen := by unfold maxLen; omega
  have J : ∀ (e i : Nat), x.b.length - i = e → i ≤ x.b.length → ∀ (b1 b2 b3 : Nat) (acc : List Int) (n4 : Nat), acc.length = n4 → n4 ≤ i → ∀ (s2 : DS) (d2 : DM), d2 = inputsD d (x.b.take i) → ∀ (A4 : Option Addr) (c4 : Nat) (w1 : World) (L1 : List Nat), Cx w g (Data s d) w1 L1 (fun w => Data s2 d2 w ∧ True) → ∀ (u : Nat → Value), Hs Tryz.prog 30 (DoPost w g s d (inputsD d x.b)) (Tryz.f30).ntmps w1 L1 [g, b1, b2, b3, 0] ⟨.no, loopAt Tryz.f30 0, pins [(0, .c (.p 0 0)), (3, .c (.p 1 0)), (4, .c (.p 2 0)), (5, .c (.p 3 0)), (13, .c (.v (.slice x.A x.b.length x.c))), (14, .c (.v (.int .i64 x.b.length))), (15, .c (.v (.int .i64 i)))] (.vals u), [.b true 53 (discSC d2 s2), .b true 79 x.sc, .b true 81 [.v (.slice none 0 0), .v (.slice none 0 0), .v (.int .i64 0), .v (.bool false)], .b true 81 [.v (.slice A4 n4 c4), .v (.slice none 0 0), .v (.int .i64 0), .v (.bool false)], .s A4 c4 n4 3 1 (acc.flatMap ci64)]⟩ := by
    intro e
    induction e with
    | zero =>
      intro i he hi b1 b2 b3 acc n4 hn4 hni s2 d2 hd2 A4 c4 w1 L1 C1 u
      obtain rfl : i = x.b.length := by omega
      rw [List.take_length] at hd2
      rw [← hd2]
      refine Hs.run0 300 (fun _ => by kernel_rfl) ?_
      refine Hs.condP ((x.b.length : Int) < (x.b.length : Int)) (by kernel_rfl) (fun h => by omega) (fun h => ?_)
      refine Hs.run0 300 (fun _ => by kernel_rfl) ?_
      exact Hs.ret (v := (.agg #[.slice A4 n4 c4, .slice none 0 0, .int .i64 0, .bool false])) Tryz.func30 (by kernel_rfl) fun w' H => ⟨_, DPost.of (s := s2) (d := d2) C1 H rfl (by kernel_rfl) fun w h => h.1⟩
    | succ e ihe =>
      intro i he hi b1 b2 b3 acc n4 hn4 hni s2 d2 hd2 A4 c4 w1 L1 C1 u
      have hil : i < x.b.length := by omega
      obtain ⟨c, hc⟩ : ∃ c, x.b[i]? = some c := ⟨_, List.getElem?_eq_getElem hil⟩
      have htk : x.b.take (i + 1) = x.b.take i ++ [c] := by rw [List.take_add_one, hc]; rfl
      have hr0 := hb w (Only.refl [g] w)
      obtain ⟨ab, aoff, hA, _, _⟩ := hr0.1 (by omega)
      have hf2 : Few d2 := by rw [hd2]; exact inputsD_few _ hf
      have hin := fun w' hD => input_any d2 s2 g c w' hD hf2
      have hd3 : (inputD d2 c).1 = inputsD d (x.b.take (i + 1)) := by rw [htk, inputsD_snoc, hd2]
      have hsl := inputD_sl d2 c
      generalize (inputD d2 c).1 = d3 at hin hd3
      generalize (inputD d2 c).2 = sg at hin hsl
      have hih := fun (b1 b2 b3 : Nat) acc n4 h1 h2 s2 A4 c4 w1 L1 C1 u => ihe (i + 1) (by omega) (by omega) b1 b2 b3 acc n4 h1 h2 s2 d3 hd3 A4 c4 w1 L1 C1 u
      rw [hA] at hih ⊢
      refine Hs.run0 300 (fun _ => by kernel_rfl) ?_
      refine Hs.condP ((i : Int) < (x.b.length : Int)) (by kernel_rfl) (fun _ => ?_) (fun h => by omega)
      refine Hs.run0 300 (fun _ => by kernel_rfl) ?_
      refine Hs.idx (b := ab) (off := aoff) (len := x.b.length) (c := x.c) (i := i) elemU8 hil (by kernel_rfl) ?_
      refine Hs.run0 300 (fun _ => by kernel_rfl) ?_
      refine Hs.ldc (E' := 5) (b := ab) (off := aoff + i * 1) (.int .u8 c) (by kernel_rfl) (fun w' H => u8_cell (by rw [← hA]; exact (hb w' (C1.only H)).1) hc) (by kernel_rfl) ?_
      refine Hs.run0 300 (fun _ => by kernel_rfl) ?_
      refine Hs.any [] (by kernel_rfl) ?_
      refine Hs.run0 300 (fun _ => by kernel_rfl) ?_
      refine Hs.branch2 1 4 (by kernel_rfl) ?_ ?_
      · refine Hs.run0 300 (fun _ => by kernel_rfl) ?_
        refine Hs.callDI (s := s2) (d := d2) (d' := d3) (l := sg) sg.length rfl C1 rfl (by kernel_rfl) (fun w' H hD => hin w' hD) (by kernel_rfl) (by kernel_rfl) (fun _ => (by kernel_rfl)) fun s3 A3 w2 L2 C2 => ?_
        refine Hs.run0 300 (fun _ => by kernel_rfl) ?_
        refine Hs.app (cf := ci64) (c := sg.length) (ty := 35) 4 elemInt acc sg n4 sg.length hn4 rfl ci64_one ci64_len (A := A4) (B := A3) (cap := c4) (by kernel_rfl) (by kernel_rfl) (by kernel_rfl) (fun w' H => (C2.now H).1.2) (by unfold maxLen; omega) (by rw [by_int16]; omega) fun A6 c6 h6 => ?_
        refine Hs.run0 300 (fun _ => by kernel_rfl) ?_
        refine Hs.slot 15 (.c (.v (.int .i64 (i + 1 : Nat)))) rfl ((by kernel_rfl : _ = Value.int .i64 (IntKind.i64.wrap ((i : Int) + 1))).trans (wrap_nextJ hm)) ?_
        refine Hs.loop (by kernel_rfl) ?_
        exact Hs.goto (loopAt Tryz.f30 0) [0, 1, 2, 3, 4] [.b true 53 (discSC d3 s3), .b true 79 x.sc, .b true 81 [.v (.slice none 0 0), .v (.slice none 0 0), .v (.int .i64 0), .v (.bool false)], .b true 81 [.v (.slice A6 (n4 + sg.length) c6), .v (.slice none 0 0), .v (.int .i64 0), .v (.bool false)], .s A6 c6 (n4 + sg.length) 3 1 ((acc ++ sg).flatMap ci64)] [(0, .c (.p 0 0)), (3, .c (.p 1 0)), (4, .c (.p 2 0)), (5, .c (.p 3 0)), (13, .c (.v (.slice (some ⟨ab, aoff, none⟩) x.b.length x.c))), (14, .c (.v (.int .i64 x.b.length))), (15, .c (.v (.int .i64 (i + 1 : Nat))))] (by kernel_rfl) (by decide) (by kernel_rfl) (by kernel_rfl) (fun _ => (by kernel_rfl)) (fun u => hih b1 b2 b3 (acc ++ sg) _ (by rw [List.length_append, hn4]) (by omega) s3 A6 c6 w2 L2 (C2.imp fun w h => ⟨h.1.1, trivial⟩) u)
      · refine Hs.callDI (s := s2) (d := d2) (d' := d3) (l := sg) sg.length rfl C1 rfl (by kernel_rfl) (fun w' H hD => hin w' hD) (by kernel_rfl) (by kernel_rfl) (fun _ => (by kernel_rfl)) fun s3 A3 w2 L2 C2 => ?_
        refine Hs.run0 300 (fun _ => by kernel_rfl) ?_
        refine Hs.app (cf := ci64) (c := sg.length) (ty := 35) 4 elemInt acc sg n4 sg.length hn4 rfl ci64_one ci64_len (A := A4) (B := A3) (cap := c4) (by kernel_rfl) (by kernel_rfl) (by kernel_rfl) (fun w' H => (C2.now H).1.2) (by unfold maxLen; omega) (by rw [by_int16]; omega) fun A6 c6 h6 => ?_
        refine Hs.run0 300 (fun _ => by kernel_rfl) ?_
        refine Hs.slot 15 (.c (.v (.int .i64 (i + 1 : Nat)))) rfl ((by kernel_rfl : _ = Value.int .i64 (IntKind.i64.wrap ((i : Int) + 1))).trans (wrap_nextJ hm)) ?_
        refine Hs.loop (by kernel_rfl) ?_
        exact Hs.goto (loopAt Tryz.f30 0) [0, 1, 2, 3, 4] [.b true 53 (discSC d3 s3), .b true 79 x.sc, .b true 81 [.v (.slice none 0 0), .v (.slice none 0 0), .v (.int .i64 0), .v (.bool false)], .b true 81 [.v (.slice A6 (n4 + sg.length) c6), .v (.slice none 0 0), .v (.int .i64 0), .v (.bool false)], .s A6 c6 (n4 + sg.length) 3 1 ((acc ++ sg).flatMap ci64)] [(0, .c (.p 0 0)), (3, .c (.p 1 0)), (4, .c (.p 2 0)), (5, .c (.p 3 0)), (13, .c (.v (.slice (some ⟨ab, aoff, none⟩) x.b.length x.c))), (14, .c (.v (.int .i64 x.b.length))), (15, .c (.v (.int .i64 (i + 1 : Nat))))] (by kernel_rfl) (by decide) (by kernel_rfl) (by kernel_rfl) (fun _ => (by kernel_rfl)) (fun u => hih b1 b2 b3 (acc ++ sg) _ (by rw [List.length_append, hn4]) (by omega) s3 A6 c6 w2 L2 (C2.imp fun w h => ⟨h.1.1, trivial⟩) u)
  unfold doD
  refine Hs.enter Tryz.func30 [g] [g] [.b true 53 (discSC d s)] [.c (.p 0 0), .g x.sc] (Mem.one w g h.blk) (by kernel_rfl) (by kernel_rfl) ?_
  refine Hs.run3 300 (fun _ => by kernel_rfl) fun b1 b2 b3 => ?_
  refine Hs.cond (x.k == 1) (by kernel_rfl) (fun h1 => ?_) (fun h1 => ?_)
  · rw [if_pos h1]
    refine Hs.run0 300 (fun _ => by kernel_rfl) ?_
    refine Hs.nilS 3 1 (by kernel_rfl) ?_ (by kernel_rfl)
    refine Hs.loop (by kernel_rfl) ?_
    exact Hs.goto (loopAt Tryz.f30 0) [0, 1, 2, 3, 4] [.b true 53 (discSC d s), .b true 79 x.sc, .b true 81 [.v (.slice none 0 0), .v (.slice none 0 0), .v (.int .i64 0), .v (.bool false)], .b true 81 [.v (.slice none 0 0), .v (.slice none 0 0), .v (.int .i64 0), .v (.bool false)], .s none 0 0 3 1 (([] : List Int).flatMap ci64)] [(0, .c (.p 0 0)), (3, .c (.p 1 0)), (4, .c (.p 2 0)), (5, .c (.p 3 0)), (13, .c (.v (.slice x.A x.b.length x.c))), (14, .c (.v (.int .i64 x.b.length))), (15, .c (.v (.int .i64 (0 : Nat))))] (by kernel_rfl) (by decide) (by kernel_rfl) (by kernel_rfl) (fun _ => (by kernel_rfl)) (fun u => J x.b.length 0 (by omega) (by omega) b1 b2 b3 [] 0 rfl (Nat.le_refl _) s d rfl none 0 w [g] (C.imp fun w h => ⟨h, trivial⟩) u)
  rw [if_neg (by rw [h1]; decide)]
  have C' := C.imp fun w h => (⟨h, trivial⟩ : Data s d w ∧ True)
  refine Hs.run0 300 (fun _ => by kernel_rfl) ?_
  refine Hs.cond (x.k == 2) (by kernel_rfl) (fun h2 => ?_) (fun h2 => ?_)
  · rw [if_pos h2]
    refine Hs.run0 300 (fun _ => by kernel_rfl) ?_
    refine Hs.callDD (F := fun _ => True) (s := s) (d := d) (d' := writeD d x.b) (v := .int .i64 (fitN d x.b)) C' rfl (by kernel_rfl) (fun w' H hD => write_any16 d s g x.A x.c x.b w' hD hf (hb.go (C.only H)) (by omega)) (by kernel_rfl) (by kernel_rfl) (fun _ => (by kernel_rfl)) fun s1 w1 L1 C1 => ?_
    refine Hs.run0 300 (fun _ => by kernel_rfl) ?_
    exact Hs.ret (v := (.agg #[.slice none 0 0, .slice none 0 0, .int .i64 (fitN d x.b), .bool false])) Tryz.func30 (by kernel_rfl) fun w' H => ⟨_, DPost.of (s := s1) (d := writeD d x.b) C1 H rfl (by kernel_rfl) fun w h => h.1⟩
  rw [if_neg (by rw [h2]; decide)]
  refine Hs.run0 300 (fun _ => by kernel_rfl) ?_
  refine Hs.cond (x.k == 3) (by kernel_rfl) (fun h3 => ?_) (fun h3 => ?_)
  · rw [if_pos h3]
    refine Hs.run0 300 (fun _ => by kernel_rfl) ?_
    refine Hs.callDR (s := s) (d := d) (d' := (outputD d x.n).1) (l := (outputD d x.n).2) (v := fun A c => .slice A (outputD d x.n).2.length c) C' rfl (by kernel_rfl) (fun w' H hD => output_any d s g x.n w' hD hf) (by kernel_rfl) (by kernel_rfl) (fun _ => (by kernel_rfl)) fun s1 A5 c5 w1 L1 C1 => ?_
    refine Hs.run0 300 (fun _ => by kernel_rfl) ?_
    exact Hs.ret (v := (.agg #[.slice none 0 0, .slice A5 (outputD d x.n).2.length c5, .int .i64 0, .bool false])) Tryz.func30 (by kernel_rfl) fun w' H => ⟨_, DPost.of (s := s1) (d := (outputD d x.n).1) C1 H rfl (by kernel_rfl) fun w h => h.1.1⟩
  rw [if_neg (by rw [h3]; decide)]
  refine Hs.run0 300 (fun _ => by kernel_rfl) ?_
  refine Hs.cond (x.k == 4) (by kernel_rfl) (fun h4 => ?_) (fun h4 => ?_)
  · rw [if_pos h4]
    refine Hs.run0 300 (fun _ => by kernel_rfl) ?_
    refine Hs.callDR (s := s) (d := d) (d' := (readD d x.n x.q).1) (l := (readD d x.n x.q).2.1) (v := fun A c => .tuple #[.slice A (readD d x.n x.q).2.1.length c, .bool (readD d x.n x.q).2.2]) C' rfl (by kernel_rfl) (fun w' H hD => read_any16 d s g x.n x.q w' hD hf hR hx.n hx.q) (by kernel_rfl) (by kernel_rfl) (fun _ => (by kernel_rfl)) fun s1 A5 c5 w1 L1 C1 => ?_
    refine Hs.run0 300 (fun _ => by kernel_rfl) ?_
    exact Hs.ret (v := (.agg #[.slice none 0 0, .slice A5 (readD d x.n x.q).2.1.length c5, .int .i64 0, .bool (readD d x.n x.q).2.2])) Tryz.func30 (by kernel_rfl) fun w' H => ⟨_, DPost.of (s := s1) (d := (readD d x.n x.q).1) C1 H rfl (by kernel_rfl) fun w h => h.1.1⟩
  rw [if_neg (by rw [h4]; decide)]
  refine Hs.run0 300 (fun _ => by kernel_rfl) ?_
  refine Hs.cond (x.k == 5) (by kernel_rfl) (fun h5 => ?_) (fun h5 => ?_)
  · rw [if_pos h5]
    refine Hs.run0 300 (fun _ => by kernel_rfl) ?_
    refine Hs.callDD (F := fun _ => True) (s := s) (d := d) (d' := tickD d x.n) (v := .tuple #[]) C' rfl (by kernel_rfl) (fun w' H hD => tick_any d s g x.n w' hD hi hx.n.2) (by kernel_rfl) (by kernel_rfl) (fun _ => (by kernel_rfl)) fun s1 w1 L1 C1 => ?_
    refine Hs.run0 300 (fun _ => by kernel_rfl) ?_
    exact Hs.ret (v := (.agg #[.slice none 0 0, .slice none 0 0, .int .i64 0, .bool false])) Tryz.func30 (by kernel_rfl) fun w' H => ⟨_, DPost.of (s := s1) (d := tickD d x.n) C1 H rfl (by kernel_rfl) fun w h => h.1⟩
  rw [if_neg (by rw [h5]; decide)]
  refine Hs.run0 300 (fun _ => by kernel_rfl) ?_
  refine Hs.cond (x.k == 6) (by kernel_rfl) (fun h6 => ?_) (fun h6 => ?_)
  · rw [if_pos h6]
    refine Hs.run0 300 (fun _ => by kernel_rfl) ?_
    refine Hs.callDD (F := fun _ => True) (s := s) (d := d) (d' := setD d x.t) (v := .int .i64 (setE x.t)) C' rfl (by kernel_rfl) (fun w' H hD => dset_any d s g x.t w' hD hf) (by kernel_rfl) (by kernel_rfl) (fun _ => (by kernel_rfl)) fun s1 w1 L1 C1 => ?_
    refine Hs.run0 300 (fun _ => by kernel_rfl) ?_
    exact Hs.ret (v := (.agg #[.slice none 0 0, .slice none 0 0, .int .i64 (setE x.t), .bool false])) Tryz.func30 (by kernel_rfl) fun w' H => ⟨_, DPost.of (s := s1) (d := setD d x.t) C1 H rfl (by kernel_rfl) fun w h => h.1⟩
  rw [if_neg (by rw [h6]; decide)]
  refine Hs.run0 300 (fun _ => by kernel_rfl) ?_
  refine Hs.cond (x.k == 7) (by kernel_rfl) (fun h7 => ?_) (fun h7 => ?_)
  · rw [if_pos h7]
    refine Hs.run0 300 (fun _ => by kernel_rfl) ?_
    refine Hs.callDD (F := fun _ => True) (s := s) (d := d) (d' := (flushD d x.n).1) (v := .int .i64 (flushD d x.n).2) C' rfl (by kernel_rfl) (fun w' H hD => flush_any d s g x.n w' hD) (by kernel_rfl) (by kernel_rfl) (fun _ => (by kernel_rfl)) fun s1 w1 L1 C1 => ?_
    refine Hs.run0 300 (fun _ => by kernel_rfl) ?_
    exact Hs.ret (v := (.agg #[.slice none 0 0, .slice none 0 0, .int .i64 (flushD d x.n).2, .bool false])) Tryz.func30 (by kernel_rfl) fun w' H => ⟨_, DPost.of (s := s1) (d := (flushD d x.n).1) C1 H rfl (by kernel_rfl) fun w h => h.1⟩
  rw [if_neg (by rw [h7]; decide)]
  refine Hs.run0 300 (fun _ => by kernel_rfl) ?_
  refine Hs.cond (x.k == 8) (by kernel_rfl) (fun h8 => ?_) (fun h8 => ?_)
  · rw [if_pos h8]
    refine Hs.run0 300 (fun _ => by kernel_rfl) ?_
    refine Hs.callDD (F := fun _ => True) (s := s) (d := d) (d' := askD d x.n) (v := .int .i64 (askE x.n)) C' rfl (by kernel_rfl) (fun w' H hD => ask_any d s g x.n w' hD hf) (by kernel_rfl) (by kernel_rfl) (fun _ => (by kernel_rfl)) fun s1 w1 L1 C1 => ?_
    refine Hs.run0 300 (fun _ => by kernel_rfl) ?_
    exact Hs.ret (v := (.agg #[.slice none 0 0, .slice none 0 0, .int .i64 (askE x.n), .bool false])) Tryz.func30 (by kernel_rfl) fun w' H => ⟨_, DPost.of (s := s1) (d := askD d x.n) C1 H rfl (by kernel_rfl) fun w h => h.1⟩
  rw [if_neg (by rw [h8]; decide)]
  refine Hs.run0 300 (fun _ => by kernel_rfl) ?_
  exact Hs.ret (v := (.agg #[.slice none 0 0, .slice none 0 0, .int .i64 0, .bool false])) Tryz.func30 (by kernel_rfl) fun w' H => ⟨_, DPost.of (s := s) (d := d) C H rfl (by kernel_rfl) fun w h => h⟩
end Go.Proofs.YtjphcdphlmaopaaGreat
