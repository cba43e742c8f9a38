/- Layer 17: the document's examples hold. No condition. -/
import Derived.Test.YtnfcdbjckdhieaaGreatPtC
import Derived.Test.YtnfcdbjckdhieaaGreatPkG
import Derived.Test.YtnfcdbjckdhieaaGreatLdAH
import Derived.Test.YtnfcdbjckdhieaaGreatEngAF
namespace Go.Proofs.YtnfcdbjckdhieaaGreat
set_option linter.all false
set_option maxRecDepth 100000
open Go.RowKit

section
variable {P : Program} {f : FuncId} {R : Ending → World → Prop} {n : Nat} {w0 w00 : World} {L : List Nat} {β : List Nat} {m : SM} {F : World → Prop} {g p : Nat}
theorem dens_pty {x : PM} {k : Nat} (h : β[k]? = some g) : dens β (ptySC x k) = ptyV x g := by
  have e1 := nm_get h
  show (SC.p k 0).den β :: _ = _
  simp only [SC.den, e1]
  rfl
/-- A method of a terminal of our own. -/
theorem Hs.callNQ {X : Type} {s : DS} {d d' : DM} {x x' : PM} {v : X → Value} {Q : X → World → Prop} {Fn : FuncId} {args : Array Value} (k1 k2 : Nat) (C : Nx w00 w0 L (fun w => Data s d w ∧ F w)) (hb1 : β[k1]? = some p) (hb2 : β[k2]? = some g) (hk1 : m.hp[k1]? = some (.b true 42 (ptySC x k2))) (hk2 : m.hp[k2]? = some (.b true 96 (discSC d s))) (hne : k1 ≠ k2)
    (hC : ∀ w, Mem w0 L β m.hp w → PAt w p g x d s → Calls P Fn args w (PQ w p g s d x' d' v Q)) (hc : callOf P n β m = some (Fn, args)) (hrd : rdOf m = []) (hwf : (ptySC x' k2).all (SC.wf m.hp.length) = true ∧ ∀ s1, (discSC d' s1).all (SC.wf m.hp.length) = true)
    (h : ∀ s1 z w1 L1, Nx w00 w1 L1 (fun w => (Data s1 d' w ∧ Q z w) ∧ F w) → Hs P f R n w1 L1 β (m.put (dstOf m) (.c (.v (v z))) ((m.hp.set k1 (.b true 42 (ptySC x' k2))).set k2 (.b true 96 (discSC d' s1))))) : Hs P f R n w0 L β m :=
  Hs.callN2 k1 k2 (fun z : DS × X => v z.2) (fun _ => ptySC x' k2) (fun z => discSC d' z.1) (fun z w => Data z.1 d' w ∧ Q z.2 w) C hb1 hb2 hk1 hk2 hne
    (fun w H B1 B2 hK => (hC w H ⟨by rw [dens_pty hb2] at B1; exact B1, B2, hK, fun e => hne (H.inj k1 k2 _ _ p hk1 hk2 (by rw [nm_get hb1]; rfl) (by rw [nm_get hb2, e]; rfl))⟩).mono fun e w' ⟨z, h1, h2, h3, h4, h5⟩ => ⟨z, h1, h2, by rw [dens_pty hb2]; exact h3, h4, h5⟩)
    hc hrd (fun z => ⟨hwf.1, hwf.2 z.1⟩) fun z w1 L1 C1 => h z.1 z.2 w1 L1 C1
end
theorem Mem.keepB2 {w0 w : World} {L β : List Nat} {hp : List HB} {p g : Nat} {α : Type} {cf : α → List Value} {T1 T2 : Nat} {c1 c2 : List SC} (H : Mem w0 L β hp w) (i j k : Nat) {wr : Bool} {T : TypeId} {cs : List SC} {l : List α} (ei : hp[i]? = some (.b true T1 c1)) (ej : hp[j]? = some (.b true T2 c2)) (ek : hp[k]? = some (.b wr T cs)) (hi : i ≠ k) (hj : j ≠ k) (hp1 : β[i]? = some p) (hp2 : β[j]? = some g) (hd : dens β cs = l.flatMap cf) : Keeps w [p, g] (fun w => RdX cf w (some ⟨nm β k, 0, none⟩) l) :=
  rdX_keeps (H.rdB k ek hd) fun a ha hx => by
    injection ha with ha
    subst ha
    simp only [List.mem_cons, List.not_mem_nil, or_false] at hx
    rcases hx with hx | hx
    · exact hi (H.inj i k _ _ p ei ek (by rw [nm_get hp1]; rfl) (congrArg some hx))
    · exact hj (H.inj j k _ _ g ej ek (by rw [nm_get hp2]; rfl) (congrArg some hx))
theorem Mem.keepQ2 {w0 w : World} {L β : List Nat} {hp : List HB} {p g b : Nat} {α : Type} {cf : α → List Value} {T1 T2 : Nat} {c1 c2 : List SC} (H : Mem w0 L β hp w) (i j k : Nat) {wr : Bool} {Q : World → Prop} {st : ∀ w w' : World, (∀ a, some (⟨b, 0, none⟩ : Addr) = some a → w'.heap[a.block]? = w.heap[a.block]?) → w.heap.size ≤ w'.heap.size → Q w → Q w'} {l : List α} (ei : hp[i]? = some (.b true T1 c1)) (ej : hp[j]? = some (.b true T2 c2)) (ek : hp[k]? = some (.q wr (some ⟨b, 0, none⟩) Q st)) (hi : i ≠ k) (hj : j ≠ k) (hp1 : β[i]? = some p) (hp2 : β[j]? = some g) (hQ : ∀ w, Q w → RdX cf w (some ⟨b, 0, none⟩) l) : Keeps w [p, g] (fun w => RdX cf w (some ⟨b, 0, none⟩) l) :=
  rdX_keeps (hQ w (H.atQ k ek)) fun a ha hx => by
    injection ha with ha
    subst ha
    simp only [List.mem_cons, List.not_mem_nil, or_false] at hx
    rcases hx with hx | hx
    · exact hi (H.inj i k _ _ p ei ek (by rw [nm_get hp1]; rfl) (congrArg some hx))
    · exact hj (H.inj j k _ _ g ej ek (by rw [nm_get hp2]; rfl) (congrArg some hx))
def MK17 (b : Nat) : HB := .q true (some ⟨b, 0, none⟩) (fun w => Rd w (some ⟨b, 0, none⟩) [97, 10]) rd_st
def x17a : PM := ⟨80, 0, 0, 0, 0, 0, 0, false⟩
def x17b : PM := ⟨80, 0, 0, 0, 0, 0, 1, false⟩
def x17c : PM := ⟨80, 0, 0, 0, 7, 7, 1, false⟩
def x17d : PM := ⟨80, 0, 0, 0, 7, 7, 1, true⟩
def d17a : DM := { newD tDef with lines := [([97, 10], false)], out := [97, 13, 10] }
def d17b : DM := { newD tDef with out := [97, 13, 10] }
theorem ex17a : openP x17a = (x17b, 0) := by kernel_rfl
theorem ex17b : bindP x17b 7 7 = (x17c, 0) := by kernel_rfl
theorem ex17c : mwriteP x17c (newD tDef) [97, 10] = (d17a, 2, []) := by kernel_rfl
theorem ex17d : sreadP x17c d17a 9 0 = (d17b, [97, 10], 0) := by kernel_rfl
theorem ex17e : mreadP x17c d17b 9 = (newD tDef, [97, 13, 10], 0) := by kernel_rfl
theorem ex17f : mwriteP x17c (newD tDef) [3] = (d16h, 1, [2]) := by kernel_rfl
theorem ex17g : hangP x17c d16h = (x17d, d16i, [(7, 1), (7, 18)]) := by kernel_rfl
theorem ex17h : sreadP x17d d16i 9 0 = (d16i, [], 0) := by kernel_rfl
theorem ex17i : evL 7 [] = [] := rfl
theorem ex17j : evL 7 [2] = [(7, 2)] := rfl
set_option maxHeartbeats 4000000 in
theorem alive17_any (w : World) : Calls Tryz.prog 8 #[] w fun e w' => e = .returned (.bool true) ∧ Only [] w w' := by
  refine Hs.enter Tryz.func8 [] [] [] [] (Mem.start0 w) (by kernel_rfl) (by kernel_rfl) ?_
  refine Hs.run0 300 (fun _ => by kernel_rfl) ?_
  refine Hs.callV (fun w' H => default_any w') (by kernel_rfl) ?_
  refine Hs.run0 300 (fun _ => by kernel_rfl) ?_
  refine Hs.inl Tryz.func12 [.g tDef.sc, .g [.v (.int .u32 80), .v (.int .u32 0), .v (.int .u32 0), .v (.int .u32 0)]] (by kernel_rfl) (by kernel_rfl) ?_
  refine Hs.run2 300 (fun _ => by kernel_rfl) fun b0 b1 => ?_
  refine Hs.any [0, 1] (by kernel_rfl) ?_
  refine Hs.run0 300 (fun _ => by kernel_rfl) ?_
  refine Hs.inl Tryz.func13 [.g tDef.sc] (by kernel_rfl) (by kernel_rfl) ?_
  refine Hs.run2 300 (fun _ => by kernel_rfl) fun b2 g => ?_
  refine Hs.retI Tryz.func13 (by kernel_rfl) (by kernel_rfl) (by kernel_rfl) ?_
  refine Hs.run1 300 (fun _ => by kernel_rfl) fun p => ?_
  refine Hs.retI Tryz.func12 (by kernel_rfl) (by kernel_rfl) (by kernel_rfl) ?_
  have N := (Nx.start w).imp (fun w _ => (⟨data_new tDef w, trivial⟩ : Data nilS (newD tDef) w ∧ True))
  refine Hs.rung0 [2] 300 (fun _ => by kernel_rfl) ?_
  refine Hs.reb 4 (cs := [.v (.pointer (some ⟨g, 0, none⟩)), .v (.int .u32 80), .v (.int .u32 0), .v (.int .u32 0), .v (.int .u32 0), .v (.int .i64 0), .v (.int .i64 0), .v (.int .i64 0), .v (.bool false)]) (T := 42) (ptySC x17a 3) (by kernel_rfl) rfl (by kernel_rfl) (by kernel_rfl) ?_
  refine Hs.callNQ (X := Unit) (x := x17a) (x' := x17b) (s := nilS) (d := (newD tDef)) (d' := (newD tDef)) (v := fun z => .int .i64 0) (Q := QT) 4 3 N rfl rfl (by kernel_rfl) (by kernel_rfl) (by decide) (fun w' H hP => by
    have := popen_any x17a (newD tDef) nilS p g w' hP
    rw [ex17a] at this
    exact this) (by kernel_rfl) (by kernel_rfl) ⟨(by kernel_rfl), fun _ => (by kernel_rfl)⟩ fun s1 z1 w1 L1 N1 => ?_
  refine Hs.rung0 [2, 7] 300 (fun _ => by kernel_rfl) ?_
  refine Hs.callNQ (X := Unit) (x := x17b) (x' := x17c) (s := s1) (d := (newD tDef)) (d' := (newD tDef)) (v := fun z => .int .i64 0) (Q := QT) 4 3 (N1.imp fun w h => (⟨h.1.1, trivial⟩ : Data s1 (newD tDef) w ∧ True)) rfl rfl (by kernel_rfl) (by kernel_rfl) (by decide) (fun w' H hP => by
    have := pbind_any 7 7 x17b (newD tDef) s1 p g w' hP
    rw [ex17b] at this
    exact this) (by kernel_rfl) (by kernel_rfl) ⟨(by kernel_rfl), fun _ => (by kernel_rfl)⟩ fun s2 z2 w2 L2 N2 => ?_
  refine Hs.rung0 [7] 300 (fun _ => by kernel_rfl) ?_
  refine Hs.condF (by kernel_rfl) ?_
  refine Hs.run1 300 (fun _ => by kernel_rfl) fun b5 => ?_
  refine Hs.mark 5 27 5 [97, 10] 2 (by kernel_rfl) (by kernel_rfl) (by kernel_rfl) (by kernel_rfl) (by kernel_rfl) ?_
  refine Hs.run0 300 (fun _ => by kernel_rfl) ?_
  refine Hs.callNQ (X := SX) (x := x17c) (x' := x17c) (s := s2) (d := (newD tDef)) (d' := d17a) (v := fun z => .tuple #[.int .i64 2, .slice z.1 0 z.2]) (Q := fun z w => RdE w z []) 4 3 (N2.imp fun w h => (⟨h.1.1, trivial⟩ : Data s2 (newD tDef) w ∧ True)) rfl rfl (by kernel_rfl) (by kernel_rfl) (by decide) (fun w' H hP => by
    have := pmwrite_any (some ⟨b5, 0, none⟩) 2 [97, 10] x17c (newD tDef) s2 p g w' hP (few_small _ (by decide) (by decide) (by decide) (by decide) (by decide)) ((H.keepQ2 (cf := cu8) (l := [97, 10]) 4 3 5 (by kernel_rfl : _ = some (HB.b true 42 (ptySC x17c 3))) (by kernel_rfl : _ = some (HB.b true 96 (discSC (newD tDef) s2))) (by kernel_rfl : _ = some (MK17 b5)) (by decide) (by decide) rfl rfl (fun w h => rd_rdX h)).imp fun w h => ⟨h, by decide, by unfold maxLen; decide⟩) (by decide)
    rw [ex17c] at this
    exact this) (by kernel_rfl) (by kernel_rfl) ⟨(by kernel_rfl), fun _ => (by kernel_rfl)⟩ fun s3 z3 w3 L3 N3 => ?_
  refine Hs.run0 300 (fun _ => by kernel_rfl) ?_
  refine Hs.callNQ (X := SX) (x := x17c) (x' := x17c) (s := s3) (d := d17a) (d' := d17b) (v := fun z => .tuple #[.slice z.1 2 z.2, .int .i64 0]) (Q := fun z w => RdU w z.1 z.2 [97, 10]) 4 3 (N3.imp fun w h => (⟨h.1.1, trivial⟩ : Data s3 d17a w ∧ True)) rfl rfl (by kernel_rfl) (by kernel_rfl) (by decide) (fun w' H hP => by
    have := psread_any 9 0 x17c d17a s3 p g w' hP (few_small _ (by decide) (by decide) (by decide) (by decide) (by decide)) ⟨by decide, by decide, by decide⟩ (by decide) (by decide)
    rw [ex17d] at this
    exact this) (by kernel_rfl) (by kernel_rfl) ⟨(by kernel_rfl), fun _ => (by kernel_rfl)⟩ fun s4 z4 w4 L4 N4 => ?_
  refine Hs.run0 300 (fun _ => by kernel_rfl) ?_
  refine Hs.callNQ (X := SX) (x := x17c) (x' := x17c) (s := s4) (d := d17b) (d' := (newD tDef)) (v := fun z => .tuple #[.slice z.1 3 z.2, .int .i64 0]) (Q := fun z w => RdU w z.1 z.2 [97, 13, 10]) 4 3 (N4.imp fun w h => (⟨h.1.1, h.1.2⟩ : Data s4 d17b w ∧ RdU w z4.1 z4.2 [97, 10])) rfl rfl (by kernel_rfl) (by kernel_rfl) (by decide) (fun w' H hP => by
    have := pmread_any 9 x17c d17b s4 p g w' hP (few_small _ (by decide) (by decide) (by decide) (by decide) (by decide))
    rw [ex17e] at this
    exact this) (by kernel_rfl) (by kernel_rfl) ⟨(by kernel_rfl), fun _ => (by kernel_rfl)⟩ fun s5 z5 w5 L5 N5 => ?_
  refine Hs.run1 300 (fun _ => by kernel_rfl) fun b6 => ?_
  refine Hs.callNQ (X := SX) (x := x17c) (x' := x17c) (s := s5) (d := (newD tDef)) (d' := d16h) (v := fun z => .tuple #[.int .i64 1, .slice z.1 1 z.2]) (Q := fun z w => RdE w z [(7, 2)]) 4 3 (N5.imp fun w h => (⟨h.1.1, h.2, h.1.2⟩ : Data s5 (newD tDef) w ∧ RdU w z4.1 z4.2 [97, 10] ∧ RdU w z5.1 z5.2 [97, 13, 10])) rfl rfl (by kernel_rfl) (by kernel_rfl) (by decide) (fun w' H hP => by
    have := pmwrite_any (some ⟨b6, 0, none⟩) 1 [3] x17c (newD tDef) s5 p g w' hP (few_small _ (by decide) (by decide) (by decide) (by decide) (by decide)) ((H.keepB2 (cf := cu8) (l := [3]) 4 3 6 (by kernel_rfl : _ = some (HB.b true 42 (ptySC x17c 3))) (by kernel_rfl : _ = some (HB.b true 96 (discSC (newD tDef) s5))) (by kernel_rfl : _ = some (HB.b true 5 ([3].map fun v => SC.v (.int .u8 v)))) (by decide) (by decide) rfl rfl rfl).imp fun w h => ⟨h, by decide, by unfold maxLen; decide⟩) (by decide)
    rw [ex17f] at this
    exact this) (by kernel_rfl) (by kernel_rfl) ⟨(by kernel_rfl), fun _ => (by kernel_rfl)⟩ fun s6 z6 w6 L6 N6 => ?_
  refine Hs.run0 300 (fun _ => by kernel_rfl) ?_
  refine Hs.callNQ (X := SX) (x := x17c) (x' := x17d) (s := s6) (d := d16h) (d' := d16i) (v := fun z => .slice z.1 2 z.2) (Q := fun z w => RdE w z [(7, 1), (7, 18)]) 4 3 (N6.imp fun w h => (⟨h.1.1, h.2.1, h.2.2, h.1.2⟩ : Data s6 d16h w ∧ RdU w z4.1 z4.2 [97, 10] ∧ RdU w z5.1 z5.2 [97, 13, 10] ∧ RdE w z6 [(7, 2)])) rfl rfl (by kernel_rfl) (by kernel_rfl) (by decide) (fun w' H hP => by
    have := phang_any x17c d16h s6 p g w' hP
    rw [ex17g] at this
    exact this) (by kernel_rfl) (by kernel_rfl) ⟨(by kernel_rfl), fun _ => (by kernel_rfl)⟩ fun s7 z7 w7 L7 N7 => ?_
  refine Hs.run0 300 (fun _ => by kernel_rfl) ?_
  refine Hs.callNQ (X := SX) (x := x17d) (x' := x17d) (s := s7) (d := d16i) (d' := d16i) (v := fun z => .tuple #[.slice z.1 0 z.2, .int .i64 0]) (Q := fun z w => RdU w z.1 z.2 []) 4 3 (N7.imp fun w h => (⟨h.1.1, h.2.1, h.2.2.1, h.2.2.2, h.1.2⟩ : Data s7 d16i w ∧ RdU w z4.1 z4.2 [97, 10] ∧ RdU w z5.1 z5.2 [97, 13, 10] ∧ RdE w z6 [(7, 2)] ∧ RdE w z7 [(7, 1), (7, 18)])) rfl rfl (by kernel_rfl) (by kernel_rfl) (by decide) (fun w' H hP => by
    have := psread_any 9 0 x17d d16i s7 p g w' hP (few_small _ (by decide) (by decide) (by decide) (by decide) (by decide)) ⟨by decide, by decide, by decide⟩ (by decide) (by decide)
    rw [ex17h] at this
    exact this) (by kernel_rfl) (by kernel_rfl) ⟨(by kernel_rfl), fun _ => (by kernel_rfl)⟩ fun s8 z8 w8 L8 N8 => ?_
  have K8 := N8.imp fun w h => (⟨h.2.1, h.2.2.1, h.2.2.2.1, h.2.2.2.2⟩ : RdU w z4.1 z4.2 [97, 10] ∧ RdU w z5.1 z5.2 [97, 13, 10] ∧ RdE w z6 [(7, 2)] ∧ RdE w z7 [(7, 1), (7, 18)])
  obtain ⟨A6, c6⟩ := z6
  obtain ⟨A7, c7⟩ := z7
  obtain ⟨b6', o6, hA6, _, _⟩ := K8.keeps.at.2.2.1.1 (by decide)
  obtain ⟨b7', o7, hA7, _, _⟩ := K8.keeps.at.2.2.2.1 (by decide)
  replace hA6 : A6 = some ⟨b6', o6, none⟩ := hA6
  replace hA7 : A7 = some ⟨b7', o7, none⟩ := hA7
  subst hA6
  subst hA7
  refine Hs.rung0 [2, 7] 22 (fun _ => by kernel_rfl) ?_
  refine Hs.strB [97, 10] (src := 27) (dst := 9) (e := 5) (A := z4.1) (nl := 2) (c := z4.2) (by kernel_rfl) (by kernel_rfl) (by kernel_rfl) rfl (by decide) (by kernel_rfl) (fun w' H => (K8.now H).1.1) ?_
  refine Hs.rung0 [7, 12, 16] 13 (fun _ => by kernel_rfl) ?_
  refine Hs.strB [97, 13, 10] (src := 27) (dst := 9) (e := 5) (A := z5.1) (nl := 3) (c := z5.2) (by kernel_rfl) (by kernel_rfl) (by kernel_rfl) rfl (by decide) (by kernel_rfl) (fun w' H => (K8.now H).2.1.1) ?_
  refine Hs.rung0 [16, 21, 25, 30] 300 (fun _ => by kernel_rfl) ?_
  refine Hs.idx (b := b6') (off := o6) (len := 1) (c := c6) (i := 0) elemEv (by decide) (by kernel_rfl) ?_
  refine Hs.rung0 [30] 300 (fun _ => by kernel_rfl) ?_
  refine Hs.ldx (cf := cEv) (size := 2) (E := 46) (b := b6') (off := o6) (i := 0) (l := [((7 : Int), (2 : Int))]) (x := ((7 : Int), (2 : Int))) cEv_len (.g [.v (.int .i64 7), .v (.int .i64 2)]) (by kernel_rfl) (fun w' H => (K8.now H).2.2.1.1) rfl (by kernel_rfl) (by kernel_rfl) rfl (by kernel_rfl) ?_
  refine Hs.rung0 [30] 3 (fun _ => by kernel_rfl) ?_
  refine Hs.same (op := .eql) (T := 46) #[.int .i64 7, .int .i64 2] true (by kernel_rfl) (.inl ⟨rfl, rfl⟩) (by kernel_rfl) ?_
  refine Hs.rung0 [30, 37, 42] 300 (fun _ => by kernel_rfl) ?_
  refine Hs.idx (b := b7') (off := o7) (len := 2) (c := c7) (i := 1) elemEv (by decide) (by kernel_rfl) ?_
  refine Hs.rung0 [42] 300 (fun _ => by kernel_rfl) ?_
  refine Hs.ldc (E' := 3) (b := b7') (off := o7 + 1 * 2 + 1) (.int .i64 18) (by kernel_rfl) (fun w' H => rdX_cell cEv_len (K8.now H).2.2.2.1 (i := 1) (x := ((7 : Int), (18 : Int))) rfl (j := 1) (v := .int .i64 18) rfl) (by kernel_rfl) ?_
  refine Hs.rung0 [42, 49, 54] 300 (fun _ => by kernel_rfl) ?_
  exact Hs.ret (v := .bool true) Tryz.func8 (by kernel_rfl) fun w' H => ⟨rfl, N8.only H⟩
end Go.Proofs.YtnfcdbjckdhieaaGreat
