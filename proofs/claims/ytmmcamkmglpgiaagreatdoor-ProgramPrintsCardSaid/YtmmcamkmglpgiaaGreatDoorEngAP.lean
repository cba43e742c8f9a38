/- The machine: things of several blocks that lie beside what the machine itself turns; calls that turn them. Over any program; no condition. -/
import Derived.Test.YtmmcamkmglpgiaaGreatDoorEngI
namespace Go.Proofs.YtmmcamkmglpgiaaGreatDoor
set_option linter.all false
set_option maxRecDepth 100000
open Go.RowKit

/-- A fact that hangs on these blocks alone. -/
def StX (fp : List Nat) (Q : World → Prop) : Prop := ∀ w w' : World, w.heap.size ≤ w'.heap.size → (∀ x ∈ fp, w'.heap[x]? = w.heap[x]?) → Q w → Q w'
/-- A thing of the blocks fp, in a call that may turn G and what is new. -/
structure Fx (w00 : World) (G : List Nat) (w1 : World) (L1 fp : List Nat) (Q : World → Prop) : Prop where
  only : Only G w00 w1
  mem : ∀ x ∈ L1, x ∈ G ∨ w00.heap.size ≤ x
  now : Q w1
  own : ∀ x ∈ fp, x < w1.heap.size ∧ x ∉ L1 ∧ (x ∈ G ∨ w00.heap.size ≤ x)
  st : StX fp Q
section
variable {w w00 w0 w1 w2 w' : World} {G L L1 L' β fp fp' : List Nat} {hp : List HB} {Q Q' : World → Prop}
theorem StX.true_ : StX fp (fun _ => True) := fun _ _ _ _ _ => trivial
theorem StX.and {fq : List Nat} (h : StX fp Q) (h' : StX fq Q') : StX (fp ++ fq) (fun w => Q w ∧ Q' w) := fun w w' hs he hq => ⟨h w w' hs (fun x hx => he x (by simp [hx])) hq.1, h' w w' hs (fun x hx => he x (by simp [hx])) hq.2⟩
theorem StX.mono {fq : List Nat} (h : StX fp Q) (hs : ∀ x ∈ fp, x ∈ fq) : StX fq Q := fun w w' h1 h2 => h w w' h1 fun x hx => h2 x (hs x hx)
theorem Fx.start (hL : ∀ x ∈ L, x ∈ G) (hQ : Q w) (hf : ∀ x ∈ fp, x < w.heap.size ∧ x ∉ L ∧ x ∈ G) (st : StX fp Q) : Fx w G w L fp Q :=
  ⟨Only.refl _ _, fun x hx => .inl (hL x hx), hQ, fun x hx => ⟨(hf x hx).1, (hf x hx).2.1, .inl (hf x hx).2.2⟩, st⟩
theorem Fx.start0 : Fx w L w L [] (fun _ => True) := Fx.start (fun _ h => h) trivial (by simp) StX.true_
theorem Fx.nil (C : Fx w00 G w1 L1 fp Q) : Fx w00 G w1 L1 [] (fun _ => True) := ⟨C.only, C.mem, trivial, by simp, StX.true_⟩
theorem Fx.two (C : Fx w00 G w1 L1 fp Q) (C' : Fx w00 G w1 L1 fp' Q') : Fx w00 G w1 L1 (fp ++ fp') (fun w => Q w ∧ Q' w) := ⟨C.only, C.mem, ⟨C.now, C'.now⟩, fun x hx => by
  rcases List.mem_append.1 hx with h | h
  · exact C.own x h
  · exact C'.own x h, C.st.and C'.st⟩
theorem Fx.goes (C : Fx w00 G w1 L1 fp Q) (O : Only L1 w1 w) : Q w := C.st w1 w O.size (fun x hx => O.block x (C.own x hx).1 (C.own x hx).2.1) C.now
theorem Fx.at (C : Fx w00 G w1 L1 fp Q) (H : Mem w1 L1 β hp w) : Q w := C.goes H.only
theorem Fx.fin (C : Fx w00 G w1 L1 fp Q) (H : Mem w1 L1 β hp w) : Only G w00 w := C.only.trans H.only C.mem
theorem Fx.back (C : Fx w00 G w1 L1 fp Q) : Back w00 G w1 L1 := fun w' O => C.only.trans O C.mem
theorem Fx.imp (C : Fx w00 G w1 L1 fp Q) (h : Q w1 → Q' w1) (st : StX fp Q') : Fx w00 G w1 L1 fp Q' := { C with now := h C.now, st := st }
theorem Fx.sub (C : Fx w00 G w1 L1 fp Q) (hs : ∀ x ∈ fp', x ∈ fp) (h : Q w1 → Q' w1) (st : StX fp' Q') : Fx w00 G w1 L1 fp' Q' := ⟨C.only, C.mem, h C.now, fun x hx => C.own x (hs x hx), st⟩
theorem Fx.key (C : Fx w00 G w1 L1 fp Q) (H : Mem w1 L1 β hp w2) : ∀ x ∈ wrN β hp, (x ∈ L1 ∨ w1.heap.size ≤ x) ∧ (x ∈ G ∨ w00.heap.size ≤ x) := fun x hx => by
  obtain ⟨k, h, b, h1, h2, h3, h4⟩ := wrN_mem.1 hx
  have := H.own k h x h1 h3 (by rw [nm_get h2]; exact h4)
  refine ⟨this, ?_⟩
  rcases this with h | h
  · exact C.mem x h
  · exact .inr (Nat.le_trans C.only.size h)
/-- Another one turns: this one stays. -/
theorem Fx.step (C : Fx w00 G w1 L1 fp Q) (H : Mem w1 L1 β hp w2) (O : Only L' w2 w') (hne : ∀ x ∈ fp, x ∉ L') (hL : ∀ x ∈ L', x ∈ G ∨ w00.heap.size ≤ x) : Fx w00 G w' (wrN β hp) fp Q := by
  have h2 := C.fin H
  have hs1 := H.only.size
  have hs2 := O.size
  refine ⟨h2.trans O hL, fun x hx => (C.key H x hx).2, C.st w2 w' O.size (fun x hx => O.block x (by have := (C.own x hx).1; omega) (hne x hx)) (C.at H), fun x hx => ⟨by have := (C.own x hx).1; omega, fun hm => ?_, (C.own x hx).2.2⟩, C.st⟩
  rcases (C.key H x hm).1 with h | h
  · exact (C.own x hx).2.1 h
  · have := (C.own x hx).1; omega
/-- It turns itself. -/
theorem Fx.turn (C : Fx w00 G w1 L1 fp Q) (H : Mem w1 L1 β hp w2) (O : Only fp w2 w') (hQ : Q' w') (hf : ∀ y ∈ fp', y < w'.heap.size ∧ (y ∈ fp ∨ w2.heap.size ≤ y)) (st : StX fp' Q') : Fx w00 G w' (wrN β hp) fp' Q' := by
  have h2 := C.fin H
  have hs1 := H.only.size
  have hs2 := O.size
  refine ⟨h2.trans O fun x hx => (C.own x hx).2.2, fun x hx => (C.key H x hx).2, hQ, fun x hx => ⟨(hf x hx).1, fun hm => ?_, ?_⟩, st⟩
  · rcases (hf x hx).2 with h | h
    · rcases (C.key H x hm).1 with h' | h'
      · exact (C.own x h).2.1 h'
      · have := (C.own x h).1; omega
    · have := H.wrN_lt x hm; omega
  · rcases (hf x hx).2 with h | h
    · exact (C.own x h).2.2
    · exact .inr (by have := h2.size; omega)
/-- What lies beside fp has stayed. -/
def MovedX (w00 : World) (G : List Nat) (w0 : World) (L fp : List Nat) (w1 : World) (L1 : List Nat) : Prop := ∀ (fp2 : List Nat) (Q2 : World → Prop), Fx w00 G w0 L fp2 Q2 → (∀ x ∈ fp2, x ∉ fp) → Fx w00 G w1 L1 fp2 Q2
end

/-- All that is known here may be written. -/
def roOk (hp : List HB) : Bool := hp.all fun h => match h with
  | .no => true
  | h => h.wr
section
variable {w w00 w0 w1 w2 w' : World} {G L L1 L' β fp fp' : List Nat} {hp : List HB} {Q Q' : World → Prop}
theorem Fx.apart (C : Fx w00 G w0 L fp Q) (H : Mem w0 L β hp w) (hro : roOk hp = true) : ∀ (k : Nat) (h : HB) (x : Nat), hp[k]? = some h → h.blk (nm β k) = some x → x ∉ fp := fun k h x hk hx hm => by
  have h1 := List.all_eq_true.1 hro h (List.mem_of_getElem? hk)
  have hw : h.wr = true := by
    cases h with
    | no => cases hx
    | _ => exact h1
  rcases H.own k h x hk hw hx with h2 | h2
  · exact (C.own x hm).2.1 h2
  · have := (C.own x hm).1; omega
theorem Mem.rebaseF (H : Mem w0 L β hp w) (O : Only fp w w') (hne : ∀ (k : Nat) (h : HB) (x : Nat), hp[k]? = some h → h.blk (nm β k) = some x → x ∉ fp) : Mem w' (wrN β hp) β hp w' :=
  ⟨Only.refl _ _, H.len, fun k h hk => HB.lies_only (H.lies k h hk) O fun x hx => hne k h x hk hx, fun k h x hk hw hx => .inl (wrN_mem.2 ⟨k, h, nm β k, hk, by
    have hk2 := (List.getElem?_eq_some_iff.1 hk).1
    rw [← H.len] at hk2
    rw [nm, List.getD, List.getElem?_eq_getElem hk2]; rfl, hw, hx⟩), H.inj⟩
end
section
variable {P : Program} {f : FR} {R : Ending → World → Prop} {n : Nat} {w0 w00 : World} {G L fp : List Nat} {β : List Nat} {m : SM} {Q : World → Prop}
/-- A call that turns a thing; what is made by it belongs to it. -/
theorem Hs.callFx {X : Type} (v : X → Value) (fp' : X → List Nat) (Q' : X → World → Prop) {F : FuncId} {args : Array Value} (C : Fx w00 G w0 L fp Q)
    (hC : ∀ w, Mem w0 L β m.hp w → Q w → Calls P F args w fun e w' => ∃ x, e = .returned (v x) ∧ Only fp w w' ∧ Q' x w' ∧ StX (fp' x) (Q' x) ∧ ∀ y ∈ fp' x, y < w'.heap.size ∧ (y ∈ fp ∨ w.heap.size ≤ y))
    (hc : callOf P n β m = some (F, args)) (hrd : rdOf m = []) (hro : roOk m.hp = true)
    (h : ∀ x w1 L1, Fx w00 G w1 L1 (fp' x) (Q' x) → (∀ y ∈ fp' x, y ∈ fp ∨ w0.heap.size ≤ y) → MovedX w00 G w0 L fp w1 L1 → Hs P f R n w1 L1 β (m.put (dstOf m) (.c (.v (v x))) m.hp)) : Hs P f R n w0 L β m := by
  refine ⟨fun w H W => ?_⟩
  unfold callOf at hc
  split at hc
  · rename_i o ho
    split at hc
    · rename_i hg
      split at hc
      · rename_i F' args' hp
        injection hc with hc
        injection hc with h1 h2
        subst h1; subst h2
        have hd : dstOf m = o.dst := by unfold dstOf; rw [ho]
        rw [hd] at h
        refine Gs.op ho hg ?_
        unfold Oper.wp
        rw [fr_eval, pureOut_run P _ _ hp w]
        refine Calls.mono (hC w H (C.at H)) ?_
        rintro e w' ⟨x, rfl, O, hQ, hst, hf⟩
        refine ⟨β, putS o.dst (.c (.v (v x))) m.sl, m.hp, fr_put n β m.sl o.dst (.c (.v (v x))), fun w2 hI => ?_, (h x w' _ (C.turn H O hQ hf hst) (fun y hy => (hf y hy).2.imp id fun h => Nat.le_trans H.only.size h) fun fp2 Q2 C2 hne => C2.step H O hne fun x hx => (C.own x hx).2.2).go w' (H.rebaseF O (C.apart H hro)) ?_⟩
        · rw [hrd]; intro i hi; cases hi
        · simp only [SM.wf, SM.put, Bool.and_eq_true]
          exact ⟨putS_wf (SM.wf_sl W) rfl, SM.wf_hp W⟩
      · cases hc
    · cases hc
  · cases hc
/-- Some of our own blocks become a thing. -/
def noAt : List Nat → List HB → List HB
  | [], hp => hp
  | k :: ks, hp => noAt ks (hp.set k .no)
theorem noAt_get : ∀ (ks : List Nat) (hp : List HB) (j : Nat) (h : HB), (noAt ks hp)[j]? = some h → (h = .no ∨ (j ∉ ks ∧ hp[j]? = some h))
  | [], hp, j, h, hj => .inr ⟨by simp, hj⟩
  | k :: ks, hp, j, h, hj => by
    rcases noAt_get ks _ j h hj with h1 | ⟨h1, h2⟩
    · exact .inl h1
    · by_cases e : k = j
      · subst e
        rw [List.getElem?_set] at h2
        simp only [if_true] at h2
        split at h2
        · injection h2 with h2; exact .inl h2.symm
        · cases h2
      · rw [List.getElem?_set_ne e] at h2
        exact .inr ⟨by simp only [List.mem_cons, not_or]; exact ⟨fun h => e h.symm, h1⟩, h2⟩
theorem noAt_len : ∀ (ks : List Nat) (hp : List HB), (noAt ks hp).length = hp.length
  | [], _ => rfl
  | k :: ks, hp => by rw [noAt, noAt_len ks, List.length_set]
theorem Hs.shutFx (ks : List Nat) (fp : List Nat) (Q : World → Prop) {fp0 : List Nat} {Q0 : World → Prop} (C : Fx w00 G w0 L fp0 Q0) (st : StX fp Q)
    (hQ : ∀ w, Mem w0 L β m.hp w → Q w) (hfp : ∀ x ∈ fp, ∃ k ∈ ks, ∃ h, m.hp[k]? = some h ∧ h.wr = true ∧ h.blk (nm β k) = some x)
    (hr : (match m.r with | .no => true | .lst .. => true | .lstN .. => true | _ => false) = true)
    (h : ∀ w1 L1, Fx w00 G w1 L1 fp Q → MovedX w00 G w0 L [] w1 L1 → Hs P f R n w1 L1 β ⟨m.r, m.todo, m.sl, noAt ks m.hp⟩) : Hs P f R n w0 L β m := by
  refine ⟨fun w H W => ?_⟩
  have H' : Mem w0 L β (noAt ks m.hp) w := H.turn (Only.refl [] w) (by simp) (noAt_len _ _) fun j h' hj => by
    rcases noAt_get ks _ j h' hj with h1 | ⟨_, h1⟩
    · exact .inl h1
    · exact .inr (.inl ⟨h1, by simp⟩)
  have key := Fx.key C H'
  have C1 : Fx w00 G w (wrN β (noAt ks m.hp)) fp Q := ⟨C.fin H, fun x hx => (key x hx).2, hQ w H, fun x hx => by
    obtain ⟨k, hk, hb, h1, h2, h3⟩ := hfp x hx
    refine ⟨HB.lies_lt (H.lies k hb h1) h3, fun hm => ?_, ?_⟩
    · obtain ⟨j, b, y, g1, g2, g3, g4⟩ := wrN_mem.1 hm
      rcases noAt_get ks _ j b g1 with e | ⟨e, g5⟩
      · subst e; cases g3
      · have := H.inj k j hb b x h1 g5 h3 (by rw [nm_get g2]; exact g4)
        subst this
        exact e hk
    · rcases H.own k hb x h1 h2 h3 with h4 | h4
      · exact C.mem x h4
      · exact .inr (Nat.le_trans C.only.size h4), st⟩
  have g2 := (h w _ C1 fun fp2 Q2 C2 _ => C2.step H' (Only.refl [] w) (by simp) (by simp)).go w H'.rebase (by
    simp only [SM.wf, Bool.and_eq_true] at W ⊢
    rw [noAt_len]
    refine ⟨W.1, List.all_eq_true.2 fun y hy => ?_⟩
    obtain ⟨j, hj⟩ := List.mem_iff_getElem?.1 hy
    rcases noAt_get ks _ j y hj with e | ⟨_, e⟩
    · subst e; rfl
    · exact List.all_eq_true.1 W.2 y (List.mem_of_getElem? e))
  obtain ⟨r, todo, sl, hp⟩ := m
  cases r with
  | no => exact g2
  | lst => exact g2
  | lstN => exact g2
  | _ => cases hr
end
end Go.Proofs.YtmmcamkmglpgiaaGreatDoor
