/- Layer 17: what a step does to a terminal; for all steps; no condition but their size. -/
import Derived.Test.YtnfcdbjckdhieaaGreatPtH
import Derived.Test.YtnfcdbjckdhieaaGreatPtE
import Derived.Test.YtnfcdbjckdhieaaGreatPtI
namespace Go.Proofs.YtnfcdbjckdhieaaGreat
set_option linter.all false
set_option maxRecDepth 100000
open Go.RowKit

section
variable {P : Program} {f : FuncId} {R : Ending → World → Prop} {n : Nat} {w0 w00 : World} {L : List Nat} {β : List Nat} {m : SM} {D0 F : World → Prop} {g p : Nat}
/-- A method of a terminal that was handed in. -/
theorem Hs.callGQ {X : Type} {s : DS} {d d' : DM} {x x' : PM} {v : X → Value} {Q : X → World → Prop} {Fn : FuncId} {args : Array Value} (C : Gx w00 [p, g] D0 w0 L (fun w => Data s d w ∧ F w)) (h0 : β[0]? = some p) (h1 : β[1]? = some g) (hk0 : m.hp[0]? = some (.b true 42 (ptySC x 1))) (hk1 : m.hp[1]? = some (.b true 96 (discSC d s)))
    (hC : ∀ w, Mem w0 L β m.hp w → PAt w p g x d s → Calls P Fn args w (PQ w p g s d x' d' v Q)) (hc : callOf P n β m = some (Fn, args)) (hrd : rdOf m = []) (hwf : (ptySC x' 1).all (SC.wf m.hp.length) = true ∧ ∀ s1, (discSC d' s1).all (SC.wf m.hp.length) = true)
    (h : ∀ s1 z w1 L1, Gx w00 [p, g] D0 w1 L1 (fun w => (Data s1 d' w ∧ Q z w) ∧ F w) → Hs P f R n w1 L1 β (m.put (dstOf m) (.c (.v (v z))) ((m.hp.set 0 (.b true 42 (ptySC x' 1))).set 1 (.b true 96 (discSC d' s1))))) : Hs P f R n w0 L β m :=
  Hs.callG2 0 1 (fun z : DS × X => v z.2) (fun _ => ptySC x' 1) (fun z => discSC d' z.1) (fun z w => Data z.1 d' w ∧ Q z.2 w) C (hG2 h0 h1 hk0 hk1) h0 h1 hk0 hk1 (by decide)
    (fun w H B1 B2 hK => (hC w H ⟨by rw [dens_pty h1] at B1; exact B1, B2, hK, fun e => absurd (H.inj 0 1 _ _ p hk0 hk1 (by rw [nm_get h0]; rfl) (by rw [nm_get h1, e]; rfl)) (by decide)⟩).mono fun e w' ⟨z, h1', h2, h3, h4, h5⟩ => ⟨z, h1', h2, by rw [dens_pty h1]; exact h3, h4, h5⟩)
    hc hrd (fun z => ⟨hwf.1, hwf.2 z.1⟩) fun z w1 L1 C1 => h z.1 z.2 w1 L1 C1
end
/-- A step. -/
structure OQ where
  k : Int
  n : Int
  q : Int
  A : Option Addr
  c : Nat
  b : List Int
  t : TM
  z : SZ
def OQ.sc (x : OQ) : List SC := [.v (.int .i64 x.k), .v (.int .i64 x.n), .v (.int .i64 x.q), .v (.slice x.A x.b.length x.c)] ++ x.t.sc ++ x.z.sc
def cOQ (x : OQ) : List Value := [.int .i64 x.k, .int .i64 x.n, .int .i64 x.q, .slice x.A x.b.length x.c] ++ x.t.cells ++ x.z.cells
theorem cOQ_len (x : OQ) : (cOQ x).length = 32 := rfl
def OQ.val (x : OQ) : Value := .agg (cOQ x).toArray
theorem elemOQ : ElemT Tryz.prog 76 80 32 (Tryz.prog.bytesOf 80) := elemT_of (z := .agg (cOQ ⟨0, 0, 0, none, 0, [], ⟨fun _ => 0, 0, 0, 0, 0, 0⟩, ⟨0, 0, 0, 0⟩⟩).toArray) (by kernel_rfl) (by kernel_rfl) (by decide) (by decide)
structure OQOk (x : OQ) : Prop where
  n : -9223372036854775808 ≤ x.n ∧ x.n ≤ 9223372036854775807
  q : -9223372036854775808 ≤ x.q ∧ x.q ≤ 9223372036854775807
  t : TOk x.t
/-- What a step answers. -/
structure PA where
  b : List Int
  n : Int
  e : Int
  ev : List (Int × Int)
/-- What a step does. -/
def doP (x : PM) (d : DM) (o : OQ) : PM × DM × PA :=
  if o.k == 1 then (x, (mwriteP x d o.b).1, ⟨[], (mwriteP x d o.b).2.1, 0, evL x.grp (mwriteP x d o.b).2.2⟩)
  else if o.k == 2 then (x, (mreadP x d o.n).1, ⟨(mreadP x d o.n).2.1, 0, (mreadP x d o.n).2.2, []⟩)
  else if o.k == 3 then ((openP x).1, d, ⟨[], 0, (openP x).2, []⟩)
  else if o.k == 4 then ((closeP x).1, d, ⟨[], 0, (closeP x).2, []⟩)
  else if o.k == 5 then (x, (sreadP x d o.n o.q).1, ⟨(sreadP x d o.n o.q).2.1, 0, (sreadP x d o.n o.q).2.2, []⟩)
  else if o.k == 6 then (x, (swriteP x d o.b).1, ⟨[], (swriteP x d o.b).2.1, (swriteP x d o.b).2.2, []⟩)
  else if o.k == 7 then (x, (attrP x d o.n o.t).1, ⟨[], 0, (attrP x d o.n o.t).2, []⟩)
  else if o.k == 8 then ((sizeP x o.z).1, d, ⟨[], 0, 0, (sizeP x o.z).2⟩)
  else if o.k == 9 then ((bindP x o.n o.q).1, d, ⟨[], 0, (bindP x o.n o.q).2, []⟩)
  else if o.k == 10 then ((groupP x o.n).1, d, ⟨[], 0, (groupP x o.n).2, []⟩)
  else if o.k == 11 then ((hangP x d).1, (hangP x d).2.1, ⟨[], 0, 0, (hangP x d).2.2⟩)
  else (x, d, ⟨[], 0, 0, []⟩)
abbrev AX := SX × SX
def ansV (a : PA) (z : AX) : Value := .agg #[.slice z.1.1 a.b.length z.1.2, .int .i64 a.n, .int .i64 a.e, .slice z.2.1 a.ev.length z.2.2]
def AnsAt (a : PA) (z : AX) (w : World) : Prop := RdU w z.1.1 z.1.2 a.b ∧ RdE w z.2 a.ev
theorem typeD_len : ∀ (l : List Int) (d : DM), (typeD d l).2.2.length ≤ l.length
  | [], d => Nat.le_refl _
  | c :: l, d => by
    unfold typeD
    split
    · exact Nat.zero_le _
    · have h1 := inputD_sl17 d c
      have h2 := typeD_len l (inputD d c).1
      show ((inputD d c).2 ++ (typeD (inputD d c).1 l).2.2).length ≤ _
      rw [List.length_append, List.length_cons]
      omega
theorem mwriteP_len (x : PM) (d : DM) (b : List Int) : (mwriteP x d b).2.2.length ≤ b.length := by
  unfold mwriteP
  split
  · exact Nat.zero_le _
  · exact typeD_len b d
theorem sizeP_len (x : PM) (q : SZ) : (sizeP x q).2.length ≤ 1 := by
  unfold sizeP
  split
  · exact Nat.zero_le _
  · exact evL_le x.grp [28]
theorem hangP_len (x : PM) (d : DM) : (hangP x d).2.2.length ≤ 2 := by
  unfold hangP
  split
  · exact Nat.zero_le _
  · exact evL_le x.grp [1, 18]
set_option maxHeartbeats 8000000 in
theorem do17_any (o : OQ) (x : PM) (d : DM) (s : DS) (p g : Nat) (w : World) (h : PAt w p g x d s) (hf : Few d) (hR : Rng d) (ho : OQOk o) (hb : Keeps w [p, g] (fun w => RdU w o.A o.c o.b)) (hbl : o.b.length ≤ 20000) : Calls Tryz.prog 27 #[.pointer (some ⟨p, 0, none⟩), o.val] w (PQ w p g s d (doP x d o).1 (doP x d o).2.1 (ansV (doP x d o).2.2) (AnsAt (doP x d o).2.2)) := by
  have C := h.gx
  have C' := C.imp fun w h => (⟨h, trivial⟩ : Data s d w ∧ True)
  unfold doP
  refine Hs.enter Tryz.func27 [p, g] [p, g] [.b true 42 (ptySC x 1), .b true 96 (discSC d s)] [.c (.p 0 0), .g o.sc] h.mem (by kernel_rfl) (by kernel_rfl) ?_
  refine Hs.run3 300 (fun _ => by kernel_rfl) fun b2 b3 b4 => ?_
  refine Hs.cond (o.k == 1) (by kernel_rfl) (fun h1 => ?_) (fun h1 => ?_)
  · rw [if_pos h1]
    refine Hs.run0 300 (fun _ => by kernel_rfl) ?_
    refine Hs.callGQ (X := SX) (F := fun _ => True) (s := s) (d := d) (d' := (mwriteP x d o.b).1) (x := x) (x' := x) (v := eventsV (mwriteP x d o.b).2.1 (evL x.grp (mwriteP x d o.b).2.2)) (Q := fun z w => RdE w z (evL x.grp (mwriteP x d o.b).2.2)) C' rfl rfl (by kernel_rfl) (by kernel_rfl) (fun w' H hP => pmwrite_any o.A o.c o.b x d s p g w' hP hf (hb.go (C.only H)) hbl) (by kernel_rfl) (by kernel_rfl) ⟨(by kernel_rfl), fun _ => (by kernel_rfl)⟩ fun s1 z w1 L1 C1 => ?_
    refine Hs.run0 300 (fun _ => by kernel_rfl) ?_
    refine Hs.callGM (v := fun z : SX => .slice z.1 (evL x.grp (mwriteP x d o.b).2.2).length z.2) (Q := fun z w => RdE w z (evL x.grp (mwriteP x d o.b).2.2)) C1 (hG2 (T1 := 42) (T2 := 96) (c1 := ptySC x 1) (c2 := discSC (mwriteP x d o.b).1 s1) rfl rfl (by kernel_rfl) (by kernel_rfl)) (fun w' H => events17_any z.1 z.2 (evL x.grp (mwriteP x d o.b).2.2) w' (C1.now H).1.2.1 (by have := evL_le x.grp (mwriteP x d o.b).2.2; have := mwriteP_len x d o.b; omega)) (by kernel_rfl) (by kernel_rfl) fun z2 w2 L2 C2 => ?_
    refine Hs.run0 300 (fun _ => by kernel_rfl) ?_
    exact Hs.ret (v := ansV ⟨[], (mwriteP x d o.b).2.1, 0, (evL x.grp (mwriteP x d o.b).2.2)⟩ ((none, 0), z2)) Tryz.func27 (by kernel_rfl) fun w' H => PQ.of (s := s1) (d := (mwriteP x d o.b).1) (x := x) (v := ansV ⟨[], (mwriteP x d o.b).2.1, 0, (evL x.grp (mwriteP x d o.b).2.2)⟩) (Q := AnsAt ⟨[], (mwriteP x d o.b).2.1, 0, (evL x.grp (mwriteP x d o.b).2.2)⟩) ((none, 0), z2) C2 H rfl rfl (by kernel_rfl) (by kernel_rfl) fun w h => ⟨h.2.1.1, rdU_nil w, h.1⟩
  rw [if_neg (by rw [h1]; decide)]
  refine Hs.run0 300 (fun _ => by kernel_rfl) ?_
  refine Hs.cond (o.k == 2) (by kernel_rfl) (fun h2 => ?_) (fun h2 => ?_)
  · rw [if_pos h2]
    refine Hs.run0 300 (fun _ => by kernel_rfl) ?_
    refine Hs.callGQ (X := SX) (F := fun _ => True) (s := s) (d := d) (d' := (mreadP x d o.n).1) (x := x) (x' := x) (v := bytesV (mreadP x d o.n).2.1 (mreadP x d o.n).2.2) (Q := fun z w => RdU w z.1 z.2 (mreadP x d o.n).2.1) C' rfl rfl (by kernel_rfl) (by kernel_rfl) (fun w' H hP => pmread_any o.n x d s p g w' hP hf) (by kernel_rfl) (by kernel_rfl) ⟨(by kernel_rfl), fun _ => (by kernel_rfl)⟩ fun s1 z w1 L1 C1 => ?_
    refine Hs.run0 300 (fun _ => by kernel_rfl) ?_
    refine Hs.callGM (v := fun z : SX => .slice z.1 ([] : List (Int × Int)).length z.2) (Q := fun z w => RdE w z ([] : List (Int × Int))) C1 (hG2 (T1 := 42) (T2 := 96) (c1 := ptySC x 1) (c2 := discSC (mreadP x d o.n).1 s1) rfl rfl (by kernel_rfl) (by kernel_rfl)) (fun w' H => events17_any none 0 ([] : List (Int × Int)) w' rdX_nil (by decide)) (by kernel_rfl) (by kernel_rfl) fun z2 w2 L2 C2 => ?_
    refine Hs.run0 300 (fun _ => by kernel_rfl) ?_
    exact Hs.ret (v := ansV ⟨(mreadP x d o.n).2.1, 0, (mreadP x d o.n).2.2, ([] : List (Int × Int))⟩ (z, z2)) Tryz.func27 (by kernel_rfl) fun w' H => PQ.of (s := s1) (d := (mreadP x d o.n).1) (x := x) (v := ansV ⟨(mreadP x d o.n).2.1, 0, (mreadP x d o.n).2.2, ([] : List (Int × Int))⟩) (Q := AnsAt ⟨(mreadP x d o.n).2.1, 0, (mreadP x d o.n).2.2, ([] : List (Int × Int))⟩) (z, z2) C2 H rfl rfl (by kernel_rfl) (by kernel_rfl) fun w h => ⟨h.2.1.1, h.2.1.2, h.1⟩
  rw [if_neg (by rw [h2]; decide)]
  refine Hs.run0 300 (fun _ => by kernel_rfl) ?_
  refine Hs.cond (o.k == 3) (by kernel_rfl) (fun h3 => ?_) (fun h3 => ?_)
  · rw [if_pos h3]
    refine Hs.run0 300 (fun _ => by kernel_rfl) ?_
    refine Hs.callGQ (X := Unit) (F := fun _ => True) (s := s) (d := d) (d' := d) (x := x) (x' := (openP x).1) (v := fun _ => .int .i64 (openP x).2) (Q := QT) C' rfl rfl (by kernel_rfl) (by kernel_rfl) (fun w' H hP => popen_any x d s p g w' hP) (by kernel_rfl) (by kernel_rfl) ⟨(by kernel_rfl), fun _ => (by kernel_rfl)⟩ fun s1 z w1 L1 C1 => ?_
    refine Hs.run0 300 (fun _ => by kernel_rfl) ?_
    refine Hs.callGM (v := fun z : SX => .slice z.1 ([] : List (Int × Int)).length z.2) (Q := fun z w => RdE w z ([] : List (Int × Int))) C1 (hG2 (T1 := 42) (T2 := 96) (c1 := ptySC (openP x).1 1) (c2 := discSC d s1) rfl rfl (by kernel_rfl) (by kernel_rfl)) (fun w' H => events17_any none 0 ([] : List (Int × Int)) w' rdX_nil (by decide)) (by kernel_rfl) (by kernel_rfl) fun z2 w2 L2 C2 => ?_
    refine Hs.run0 300 (fun _ => by kernel_rfl) ?_
    exact Hs.ret (v := ansV ⟨[], 0, (openP x).2, ([] : List (Int × Int))⟩ ((none, 0), z2)) Tryz.func27 (by kernel_rfl) fun w' H => PQ.of (s := s1) (d := d) (x := (openP x).1) (v := ansV ⟨[], 0, (openP x).2, ([] : List (Int × Int))⟩) (Q := AnsAt ⟨[], 0, (openP x).2, ([] : List (Int × Int))⟩) ((none, 0), z2) C2 H rfl rfl (by kernel_rfl) (by kernel_rfl) fun w h => ⟨h.2.1.1, rdU_nil w, h.1⟩
  rw [if_neg (by rw [h3]; decide)]
  refine Hs.run0 300 (fun _ => by kernel_rfl) ?_
  refine Hs.cond (o.k == 4) (by kernel_rfl) (fun h4 => ?_) (fun h4 => ?_)
  · rw [if_pos h4]
    refine Hs.run0 300 (fun _ => by kernel_rfl) ?_
    refine Hs.callGQ (X := Unit) (F := fun _ => True) (s := s) (d := d) (d' := d) (x := x) (x' := (closeP x).1) (v := fun _ => .int .i64 (closeP x).2) (Q := QT) C' rfl rfl (by kernel_rfl) (by kernel_rfl) (fun w' H hP => pclose_any x d s p g w' hP) (by kernel_rfl) (by kernel_rfl) ⟨(by kernel_rfl), fun _ => (by kernel_rfl)⟩ fun s1 z w1 L1 C1 => ?_
    refine Hs.run0 300 (fun _ => by kernel_rfl) ?_
    refine Hs.callGM (v := fun z : SX => .slice z.1 ([] : List (Int × Int)).length z.2) (Q := fun z w => RdE w z ([] : List (Int × Int))) C1 (hG2 (T1 := 42) (T2 := 96) (c1 := ptySC (closeP x).1 1) (c2 := discSC d s1) rfl rfl (by kernel_rfl) (by kernel_rfl)) (fun w' H => events17_any none 0 ([] : List (Int × Int)) w' rdX_nil (by decide)) (by kernel_rfl) (by kernel_rfl) fun z2 w2 L2 C2 => ?_
    refine Hs.run0 300 (fun _ => by kernel_rfl) ?_
    exact Hs.ret (v := ansV ⟨[], 0, (closeP x).2, ([] : List (Int × Int))⟩ ((none, 0), z2)) Tryz.func27 (by kernel_rfl) fun w' H => PQ.of (s := s1) (d := d) (x := (closeP x).1) (v := ansV ⟨[], 0, (closeP x).2, ([] : List (Int × Int))⟩) (Q := AnsAt ⟨[], 0, (closeP x).2, ([] : List (Int × Int))⟩) ((none, 0), z2) C2 H rfl rfl (by kernel_rfl) (by kernel_rfl) fun w h => ⟨h.2.1.1, rdU_nil w, h.1⟩
  rw [if_neg (by rw [h4]; decide)]
  refine Hs.run0 300 (fun _ => by kernel_rfl) ?_
  refine Hs.cond (o.k == 5) (by kernel_rfl) (fun h5 => ?_) (fun h5 => ?_)
  · rw [if_pos h5]
    refine Hs.run0 300 (fun _ => by kernel_rfl) ?_
    refine Hs.callGQ (X := SX) (F := fun _ => True) (s := s) (d := d) (d' := (sreadP x d o.n o.q).1) (x := x) (x' := x) (v := bytesV (sreadP x d o.n o.q).2.1 (sreadP x d o.n o.q).2.2) (Q := fun z w => RdU w z.1 z.2 (sreadP x d o.n o.q).2.1) C' rfl rfl (by kernel_rfl) (by kernel_rfl) (fun w' H hP => psread_any o.n o.q x d s p g w' hP hf hR ho.n ho.q) (by kernel_rfl) (by kernel_rfl) ⟨(by kernel_rfl), fun _ => (by kernel_rfl)⟩ fun s1 z w1 L1 C1 => ?_
    refine Hs.run0 300 (fun _ => by kernel_rfl) ?_
    refine Hs.callGM (v := fun z : SX => .slice z.1 ([] : List (Int × Int)).length z.2) (Q := fun z w => RdE w z ([] : List (Int × Int))) C1 (hG2 (T1 := 42) (T2 := 96) (c1 := ptySC x 1) (c2 := discSC (sreadP x d o.n o.q).1 s1) rfl rfl (by kernel_rfl) (by kernel_rfl)) (fun w' H => events17_any none 0 ([] : List (Int × Int)) w' rdX_nil (by decide)) (by kernel_rfl) (by kernel_rfl) fun z2 w2 L2 C2 => ?_
    refine Hs.run0 300 (fun _ => by kernel_rfl) ?_
    exact Hs.ret (v := ansV ⟨(sreadP x d o.n o.q).2.1, 0, (sreadP x d o.n o.q).2.2, ([] : List (Int × Int))⟩ (z, z2)) Tryz.func27 (by kernel_rfl) fun w' H => PQ.of (s := s1) (d := (sreadP x d o.n o.q).1) (x := x) (v := ansV ⟨(sreadP x d o.n o.q).2.1, 0, (sreadP x d o.n o.q).2.2, ([] : List (Int × Int))⟩) (Q := AnsAt ⟨(sreadP x d o.n o.q).2.1, 0, (sreadP x d o.n o.q).2.2, ([] : List (Int × Int))⟩) (z, z2) C2 H rfl rfl (by kernel_rfl) (by kernel_rfl) fun w h => ⟨h.2.1.1, h.2.1.2, h.1⟩
  rw [if_neg (by rw [h5]; decide)]
  refine Hs.run0 300 (fun _ => by kernel_rfl) ?_
  refine Hs.cond (o.k == 6) (by kernel_rfl) (fun h6 => ?_) (fun h6 => ?_)
  · rw [if_pos h6]
    refine Hs.run0 300 (fun _ => by kernel_rfl) ?_
    refine Hs.callGQ (X := Unit) (F := fun _ => True) (s := s) (d := d) (d' := (swriteP x d o.b).1) (x := x) (x' := x) (v := fun _ => .tuple #[.int .i64 (swriteP x d o.b).2.1, .int .i64 (swriteP x d o.b).2.2]) (Q := QT) C' rfl rfl (by kernel_rfl) (by kernel_rfl) (fun w' H hP => pswrite_any o.A o.c o.b x d s p g w' hP hf (hb.go (C.only H)) (by omega)) (by kernel_rfl) (by kernel_rfl) ⟨(by kernel_rfl), fun _ => (by kernel_rfl)⟩ fun s1 z w1 L1 C1 => ?_
    refine Hs.run0 300 (fun _ => by kernel_rfl) ?_
    refine Hs.callGM (v := fun z : SX => .slice z.1 ([] : List (Int × Int)).length z.2) (Q := fun z w => RdE w z ([] : List (Int × Int))) C1 (hG2 (T1 := 42) (T2 := 96) (c1 := ptySC x 1) (c2 := discSC (swriteP x d o.b).1 s1) rfl rfl (by kernel_rfl) (by kernel_rfl)) (fun w' H => events17_any none 0 ([] : List (Int × Int)) w' rdX_nil (by decide)) (by kernel_rfl) (by kernel_rfl) fun z2 w2 L2 C2 => ?_
    refine Hs.run0 300 (fun _ => by kernel_rfl) ?_
    exact Hs.ret (v := ansV ⟨[], (swriteP x d o.b).2.1, (swriteP x d o.b).2.2, ([] : List (Int × Int))⟩ ((none, 0), z2)) Tryz.func27 (by kernel_rfl) fun w' H => PQ.of (s := s1) (d := (swriteP x d o.b).1) (x := x) (v := ansV ⟨[], (swriteP x d o.b).2.1, (swriteP x d o.b).2.2, ([] : List (Int × Int))⟩) (Q := AnsAt ⟨[], (swriteP x d o.b).2.1, (swriteP x d o.b).2.2, ([] : List (Int × Int))⟩) ((none, 0), z2) C2 H rfl rfl (by kernel_rfl) (by kernel_rfl) fun w h => ⟨h.2.1.1, rdU_nil w, h.1⟩
  rw [if_neg (by rw [h6]; decide)]
  refine Hs.run0 300 (fun _ => by kernel_rfl) ?_
  refine Hs.cond (o.k == 7) (by kernel_rfl) (fun h7 => ?_) (fun h7 => ?_)
  · rw [if_pos h7]
    refine Hs.run0 300 (fun _ => by kernel_rfl) ?_
    refine Hs.callGQ (X := Unit) (F := fun _ => True) (s := s) (d := d) (d' := (attrP x d o.n o.t).1) (x := x) (x' := x) (v := fun _ => .int .i64 (attrP x d o.n o.t).2) (Q := QT) C' rfl rfl (by kernel_rfl) (by kernel_rfl) (fun w' H hP => psetattr_any o.n o.t x d s p g w' hP hf) (by kernel_rfl) (by kernel_rfl) ⟨(by kernel_rfl), fun _ => (by kernel_rfl)⟩ fun s1 z w1 L1 C1 => ?_
    refine Hs.run0 300 (fun _ => by kernel_rfl) ?_
    refine Hs.callGM (v := fun z : SX => .slice z.1 ([] : List (Int × Int)).length z.2) (Q := fun z w => RdE w z ([] : List (Int × Int))) C1 (hG2 (T1 := 42) (T2 := 96) (c1 := ptySC x 1) (c2 := discSC (attrP x d o.n o.t).1 s1) rfl rfl (by kernel_rfl) (by kernel_rfl)) (fun w' H => events17_any none 0 ([] : List (Int × Int)) w' rdX_nil (by decide)) (by kernel_rfl) (by kernel_rfl) fun z2 w2 L2 C2 => ?_
    refine Hs.run0 300 (fun _ => by kernel_rfl) ?_
    exact Hs.ret (v := ansV ⟨[], 0, (attrP x d o.n o.t).2, ([] : List (Int × Int))⟩ ((none, 0), z2)) Tryz.func27 (by kernel_rfl) fun w' H => PQ.of (s := s1) (d := (attrP x d o.n o.t).1) (x := x) (v := ansV ⟨[], 0, (attrP x d o.n o.t).2, ([] : List (Int × Int))⟩) (Q := AnsAt ⟨[], 0, (attrP x d o.n o.t).2, ([] : List (Int × Int))⟩) ((none, 0), z2) C2 H rfl rfl (by kernel_rfl) (by kernel_rfl) fun w h => ⟨h.2.1.1, rdU_nil w, h.1⟩
  rw [if_neg (by rw [h7]; decide)]
  refine Hs.run0 300 (fun _ => by kernel_rfl) ?_
  refine Hs.cond (o.k == 8) (by kernel_rfl) (fun h8 => ?_) (fun h8 => ?_)
  · rw [if_pos h8]
    refine Hs.run0 300 (fun _ => by kernel_rfl) ?_
    refine Hs.callGQ (X := SX) (F := fun _ => True) (s := s) (d := d) (d' := d) (x := x) (x' := (sizeP x o.z).1) (v := evV (sizeP x o.z).2) (Q := fun z w => RdE w z (sizeP x o.z).2) C' rfl rfl (by kernel_rfl) (by kernel_rfl) (fun w' H hP => psize_any o.z x d s p g w' hP) (by kernel_rfl) (by kernel_rfl) ⟨(by kernel_rfl), fun _ => (by kernel_rfl)⟩ fun s1 z w1 L1 C1 => ?_
    refine Hs.run0 300 (fun _ => by kernel_rfl) ?_
    refine Hs.callGM (v := fun z : SX => .slice z.1 (sizeP x o.z).2.length z.2) (Q := fun z w => RdE w z (sizeP x o.z).2) C1 (hG2 (T1 := 42) (T2 := 96) (c1 := ptySC (sizeP x o.z).1 1) (c2 := discSC d s1) rfl rfl (by kernel_rfl) (by kernel_rfl)) (fun w' H => events17_any z.1 z.2 (sizeP x o.z).2 w' (C1.now H).1.2.1 (by have := sizeP_len x o.z; omega)) (by kernel_rfl) (by kernel_rfl) fun z2 w2 L2 C2 => ?_
    refine Hs.run0 300 (fun _ => by kernel_rfl) ?_
    exact Hs.ret (v := ansV ⟨[], 0, 0, (sizeP x o.z).2⟩ ((none, 0), z2)) Tryz.func27 (by kernel_rfl) fun w' H => PQ.of (s := s1) (d := d) (x := (sizeP x o.z).1) (v := ansV ⟨[], 0, 0, (sizeP x o.z).2⟩) (Q := AnsAt ⟨[], 0, 0, (sizeP x o.z).2⟩) ((none, 0), z2) C2 H rfl rfl (by kernel_rfl) (by kernel_rfl) fun w h => ⟨h.2.1.1, rdU_nil w, h.1⟩
  rw [if_neg (by rw [h8]; decide)]
  refine Hs.run0 300 (fun _ => by kernel_rfl) ?_
  refine Hs.cond (o.k == 9) (by kernel_rfl) (fun h9 => ?_) (fun h9 => ?_)
  · rw [if_pos h9]
    refine Hs.run0 300 (fun _ => by kernel_rfl) ?_
    refine Hs.callGQ (X := Unit) (F := fun _ => True) (s := s) (d := d) (d' := d) (x := x) (x' := (bindP x o.n o.q).1) (v := fun _ => .int .i64 (bindP x o.n o.q).2) (Q := QT) C' rfl rfl (by kernel_rfl) (by kernel_rfl) (fun w' H hP => pbind_any o.n o.q x d s p g w' hP) (by kernel_rfl) (by kernel_rfl) ⟨(by kernel_rfl), fun _ => (by kernel_rfl)⟩ fun s1 z w1 L1 C1 => ?_
    refine Hs.run0 300 (fun _ => by kernel_rfl) ?_
    refine Hs.callGM (v := fun z : SX => .slice z.1 ([] : List (Int × Int)).length z.2) (Q := fun z w => RdE w z ([] : List (Int × Int))) C1 (hG2 (T1 := 42) (T2 := 96) (c1 := ptySC (bindP x o.n o.q).1 1) (c2 := discSC d s1) rfl rfl (by kernel_rfl) (by kernel_rfl)) (fun w' H => events17_any none 0 ([] : List (Int × Int)) w' rdX_nil (by decide)) (by kernel_rfl) (by kernel_rfl) fun z2 w2 L2 C2 => ?_
    refine Hs.run0 300 (fun _ => by kernel_rfl) ?_
    exact Hs.ret (v := ansV ⟨[], 0, (bindP x o.n o.q).2, ([] : List (Int × Int))⟩ ((none, 0), z2)) Tryz.func27 (by kernel_rfl) fun w' H => PQ.of (s := s1) (d := d) (x := (bindP x o.n o.q).1) (v := ansV ⟨[], 0, (bindP x o.n o.q).2, ([] : List (Int × Int))⟩) (Q := AnsAt ⟨[], 0, (bindP x o.n o.q).2, ([] : List (Int × Int))⟩) ((none, 0), z2) C2 H rfl rfl (by kernel_rfl) (by kernel_rfl) fun w h => ⟨h.2.1.1, rdU_nil w, h.1⟩
  rw [if_neg (by rw [h9]; decide)]
  refine Hs.run0 300 (fun _ => by kernel_rfl) ?_
  refine Hs.cond (o.k == 10) (by kernel_rfl) (fun h10 => ?_) (fun h10 => ?_)
  · rw [if_pos h10]
    refine Hs.run0 300 (fun _ => by kernel_rfl) ?_
    refine Hs.callGQ (X := Unit) (F := fun _ => True) (s := s) (d := d) (d' := d) (x := x) (x' := (groupP x o.n).1) (v := fun _ => .int .i64 (groupP x o.n).2) (Q := QT) C' rfl rfl (by kernel_rfl) (by kernel_rfl) (fun w' H hP => pgroup_any o.n x d s p g w' hP) (by kernel_rfl) (by kernel_rfl) ⟨(by kernel_rfl), fun _ => (by kernel_rfl)⟩ fun s1 z w1 L1 C1 => ?_
    refine Hs.run0 300 (fun _ => by kernel_rfl) ?_
    refine Hs.callGM (v := fun z : SX => .slice z.1 ([] : List (Int × Int)).length z.2) (Q := fun z w => RdE w z ([] : List (Int × Int))) C1 (hG2 (T1 := 42) (T2 := 96) (c1 := ptySC (groupP x o.n).1 1) (c2 := discSC d s1) rfl rfl (by kernel_rfl) (by kernel_rfl)) (fun w' H => events17_any none 0 ([] : List (Int × Int)) w' rdX_nil (by decide)) (by kernel_rfl) (by kernel_rfl) fun z2 w2 L2 C2 => ?_
    refine Hs.run0 300 (fun _ => by kernel_rfl) ?_
    exact Hs.ret (v := ansV ⟨[], 0, (groupP x o.n).2, ([] : List (Int × Int))⟩ ((none, 0), z2)) Tryz.func27 (by kernel_rfl) fun w' H => PQ.of (s := s1) (d := d) (x := (groupP x o.n).1) (v := ansV ⟨[], 0, (groupP x o.n).2, ([] : List (Int × Int))⟩) (Q := AnsAt ⟨[], 0, (groupP x o.n).2, ([] : List (Int × Int))⟩) ((none, 0), z2) C2 H rfl rfl (by kernel_rfl) (by kernel_rfl) fun w h => ⟨h.2.1.1, rdU_nil w, h.1⟩
  rw [if_neg (by rw [h10]; decide)]
  refine Hs.run0 300 (fun _ => by kernel_rfl) ?_
  refine Hs.cond (o.k == 11) (by kernel_rfl) (fun h11 => ?_) (fun h11 => ?_)
  · rw [if_pos h11]
    refine Hs.run0 300 (fun _ => by kernel_rfl) ?_
    refine Hs.callGQ (X := SX) (F := fun _ => True) (s := s) (d := d) (d' := (hangP x d).2.1) (x := x) (x' := (hangP x d).1) (v := evV (hangP x d).2.2) (Q := fun z w => RdE w z (hangP x d).2.2) C' rfl rfl (by kernel_rfl) (by kernel_rfl) (fun w' H hP => phang_any x d s p g w' hP) (by kernel_rfl) (by kernel_rfl) ⟨(by kernel_rfl), fun _ => (by kernel_rfl)⟩ fun s1 z w1 L1 C1 => ?_
    refine Hs.run0 300 (fun _ => by kernel_rfl) ?_
    refine Hs.callGM (v := fun z : SX => .slice z.1 (hangP x d).2.2.length z.2) (Q := fun z w => RdE w z (hangP x d).2.2) C1 (hG2 (T1 := 42) (T2 := 96) (c1 := ptySC (hangP x d).1 1) (c2 := discSC (hangP x d).2.1 s1) rfl rfl (by kernel_rfl) (by kernel_rfl)) (fun w' H => events17_any z.1 z.2 (hangP x d).2.2 w' (C1.now H).1.2.1 (by have := hangP_len x d; omega)) (by kernel_rfl) (by kernel_rfl) fun z2 w2 L2 C2 => ?_
    refine Hs.run0 300 (fun _ => by kernel_rfl) ?_
    exact Hs.ret (v := ansV ⟨[], 0, 0, (hangP x d).2.2⟩ ((none, 0), z2)) Tryz.func27 (by kernel_rfl) fun w' H => PQ.of (s := s1) (d := (hangP x d).2.1) (x := (hangP x d).1) (v := ansV ⟨[], 0, 0, (hangP x d).2.2⟩) (Q := AnsAt ⟨[], 0, 0, (hangP x d).2.2⟩) ((none, 0), z2) C2 H rfl rfl (by kernel_rfl) (by kernel_rfl) fun w h => ⟨h.2.1.1, rdU_nil w, h.1⟩
  rw [if_neg (by rw [h11]; decide)]
  refine Hs.run0 300 (fun _ => by kernel_rfl) ?_
  refine Hs.callGM (v := fun z : SX => .slice z.1 ([] : List (Int × Int)).length z.2) (Q := fun z w => RdE w z ([] : List (Int × Int))) C' (hG2 (T1 := 42) (T2 := 96) (c1 := ptySC x 1) (c2 := discSC d s) rfl rfl (by kernel_rfl) (by kernel_rfl)) (fun w' H => events17_any none 0 ([] : List (Int × Int)) w' rdX_nil (by decide)) (by kernel_rfl) (by kernel_rfl) fun z2 w2 L2 C2 => ?_
  refine Hs.run0 300 (fun _ => by kernel_rfl) ?_
  exact Hs.ret (v := ansV ⟨[], 0, 0, ([] : List (Int × Int))⟩ ((none, 0), z2)) Tryz.func27 (by kernel_rfl) fun w' H => PQ.of (s := s) (d := d) (x := x) (v := ansV ⟨[], 0, 0, ([] : List (Int × Int))⟩) (Q := AnsAt ⟨[], 0, 0, ([] : List (Int × Int))⟩) ((none, 0), z2) C2 H rfl rfl (by kernel_rfl) (by kernel_rfl) fun w h => ⟨h.2.1, rdU_nil w, h.1⟩
end Go.Proofs.YtnfcdbjckdhieaaGreat
