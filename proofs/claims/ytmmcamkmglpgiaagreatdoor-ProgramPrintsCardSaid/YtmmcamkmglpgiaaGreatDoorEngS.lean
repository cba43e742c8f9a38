/- The machine: facts that stay, calls that turn a block of ours and answer some thing, calls that are deferred; over any program; no condition. -/
import Derived.Test.YtmmcamkmglpgiaaGreatDoorEngR
import Derived.Test.YtmmcamkmglpgiaaGreatDoorEngO
namespace Go.Proofs.YtmmcamkmglpgiaaGreatDoor
set_option linter.all false

/-- As long as none but L turns, Q holds. -/
def Keeps (w : World) (L : List Nat) (Q : World → Prop) : Prop := ∀ w', Only L w w' → Q w'
/-- Whatever stays with all of L stays with them anew. -/
def Turns (w w' : World) (g : Nat) (Q Q' : World → Prop) : Prop := ∀ L : List Nat, (∀ x ∈ L, x < w.heap.size) → g ∈ L → Keeps w L Q → Keeps w' L Q'
section
variable {w w0 w1 w2 w' : World} {L L1 L' β : List Nat} {hp : List HB} {g : Nat} {Q Q' Q'' F : World → Prop}
theorem Keeps.at (h : Keeps w L Q) : Q w := h w (Only.refl L w)
theorem Keeps.now (h : Keeps w0 L Q) (H : Mem w0 L β hp w) : Q w := h w H.only
theorem Keeps.back (h : Keeps w0 L Q) (B : Back w0 L w1 L1) : Keeps w1 L1 Q := fun w' O => h w' (B w' O)
theorem Keeps.step (h : Keeps w0 L Q) (H : Mem w0 L β hp w) : Keeps w (wrN β hp) Q := h.back H.back
theorem Keeps.mono (h : Keeps w L Q) (hs : ∀ x ∈ L', x ∈ L) : Keeps w L' Q := fun w' O => h w' (O.mono hs)
theorem Keeps.imp (h : Keeps w L Q) (f : ∀ w, Q w → Q' w) : Keeps w L Q' := fun w' O => f w' (h w' O)
theorem Keeps.go (h : Keeps w L Q) (O : Only L w w') : Keeps w' L Q := fun w2 O2 => h w2 (O.trans O2 (fun x hx => .inl hx))
/-- What none of what lies in w can touch. -/
theorem Keeps.goN (h : Keeps w L Q) (O : Only L' w w') (h1 : ∀ x ∈ L', x ∈ L ∨ w.heap.size ≤ x) (h2 : ∀ x ∈ L1, x ∈ L ∨ w.heap.size ≤ x) : Keeps w' L1 Q := fun w2 O2 => by
  have O1 : Only L w w' := (Only.refl L w).trans O h1
  exact h w2 (O1.trans O2 h2)
theorem Keeps.and (h : Keeps w L Q) (h' : Keeps w L Q') : Keeps w L (fun w => Q w ∧ Q' w) := fun w' O => ⟨h w' O, h' w' O⟩
theorem Turns.same (O : Only [g] w w') : Turns w w' g Q Q := fun L _ hg h => h.go (O.mono (by simpa using hg))
theorem Turns.trans (O : Only [g] w w1) (h : Turns w w1 g Q Q') (h' : Turns w1 w2 g Q' Q'') : Turns w w2 g Q Q'' := fun L hL hg hk => h' L (fun x hx => Nat.lt_of_lt_of_le (hL x hx) O.size) hg (h L hL hg hk)
theorem Turns.imp (h : Turns w w' g Q Q') (f : ∀ w, Q' w → Q'' w) : Turns w w' g Q Q'' := fun L hL hg hk => (h L hL hg hk).imp f
theorem Turns.pre (h : Turns w w' g Q Q') (f : ∀ w, Q'' w → Q w) : Turns w w' g Q'' Q' := fun L hL hg hk => h L hL hg (hk.imp f)
theorem Turns.andR (O : Only [g] w w') (h : Turns w w' g Q Q') : Turns w w' g (fun w => Q w ∧ F w) (fun w => Q' w ∧ F w) := fun L hL hg hk =>
  (h L hL hg (hk.imp fun _ h => h.1)).and ((hk.imp fun _ h => h.2).go (O.mono (by simpa using hg)))
/-- A call that turns g, at a later world of it; what is known of the rest. -/
structure Cx (w : World) (g : Nat) (D0 : World → Prop) (w1 : World) (L1 : List Nat) (D1 : World → Prop) : Prop where
  back : Back w [g] w1 L1
  mem : ∀ x ∈ L1, x = g ∨ w.heap.size ≤ x
  has : g ∈ L1
  size : w.heap.size ≤ w1.heap.size
  old : g < w.heap.size
  k0 : Keeps w [g] D0
  keep : ∀ L : List Nat, (∀ x ∈ L, x < w.heap.size) → g ∈ L → Keeps w L D0 → Keeps w1 (L ++ L1) D1
variable {D0 D1 D2 : World → Prop}
theorem Cx.start (hk : Keeps w [g] D0) (hg : g < w.heap.size) : Cx w g D0 w [g] D0 :=
  ⟨Back.refl, by simp, by simp, Nat.le_refl _, hg, hk, fun L _ hg hk => hk.mono fun x hx => by
    rcases List.mem_append.1 hx with h | h
    · exact h
    · rw [List.mem_singleton.1 h]; exact hg⟩
theorem Cx.keeps (C : Cx w g D0 w1 L1 D1) : Keeps w1 L1 D1 := (C.keep [g] (by simp [C.old]) (by simp) C.k0).mono fun x hx => by simp [hx]
theorem Cx.now (C : Cx w g D0 w1 L1 D1) (H : Mem w1 L1 β hp w') : D1 w' := C.keeps.now H
theorem Cx.keepsAt (C : Cx w g D0 w1 L1 D1) (H : Mem w1 L1 β hp w') : Keeps w' [g] D1 := C.keeps.goN H.only (fun x hx => .inl hx) (fun x hx => .inl (by rw [List.mem_singleton.1 hx]; exact C.has))
theorem Cx.imp (C : Cx w g D0 w1 L1 D1) (f : ∀ w, D1 w → D2 w) : Cx w g D0 w1 L1 D2 := ⟨C.back, C.mem, C.has, C.size, C.old, C.k0, fun L hL hg hk => (C.keep L hL hg hk).imp f⟩
theorem Cx.only (C : Cx w g D0 w1 L1 D1) (H : Mem w1 L1 β hp w') : Only [g] w w' := C.back w' H.only
theorem Cx.turns (C : Cx w g D0 w1 L1 D1) (H : Mem w1 L1 β hp w') : Turns w w' g D0 D1 := fun L hL hg hk =>
  (C.keep L hL hg hk).goN H.only (fun x hx => .inl (by simp [hx])) (fun x hx => .inl (by simp [hx]))
/-- A block of ours, but for g, was made in the call. -/
theorem Cx.fresh (C : Cx w g D0 w1 L1 D1) (H : Mem w1 L1 β hp w') {i k : Nat} {hi hk : HB} {x : Nat} (ei : hp[i]? = some hi) (ek : hp[k]? = some hk) (hne : i ≠ k) (hg : hi.blk (nm β i) = some g) (hw : hk.wr = true) (hx : hk.blk (nm β k) = some x) : w.heap.size ≤ x ∧ x ≠ g := by
  have hxg : x ≠ g := fun e => by subst e; exact hne (H.inj i k _ _ x ei ek hg hx)
  refine ⟨?_, hxg⟩
  rcases H.own k hk x ek hw hx with h | h
  · rcases C.mem x h with h | h
    · exact absurd h hxg
    · exact h
  · have := C.size; omega
theorem rdX_keeps {α : Type} {cf : α → List Value} {A : Option Addr} {l : List α} (h : RdX cf w' A l) (hA : ∀ a, A = some a → a.block ∉ L) : Keeps w' L (fun w => RdX cf w A l) := fun w2 O => h.far O fun a ha _ => hA a ha
section
variable {α : Type} {cf : α → List Value} {E size : Nat}
/-- A slice of ours stays. -/
theorem Cx.turnsS (C : Cx w g D0 w1 L1 D1) (H : Mem w1 L1 β hp w') (i k : Nat) {hi : HB} {A : Option Addr} {cap n : Nat} {l : List α} (hl : l.length = n) (ei : hp[i]? = some hi) (ek : hp[k]? = some (.s A cap n E size (l.flatMap cf))) (hne : i ≠ k) (hg : hi.blk (nm β i) = some g) : Turns w w' g D0 (fun w => D1 w ∧ (RdX cf w A l ∧ n ≤ cap ∧ cap ≤ maxLen)) := fun L hL hg' hk => by
  refine (C.turns H L hL hg' hk).and (Keeps.and ?_ (fun _ _ => H.capS k hl ek))
  refine rdX_keeps (H.rdX k hl ek) fun a ha hx => ?_
  have h1 := (C.fresh H (x := a.block) ei ek hne hg rfl (by subst ha; rfl)).1
  have h2 := hL _ hx
  omega
theorem Cx.turnsB (C : Cx w g D0 w1 L1 D1) (H : Mem w1 L1 β hp w') (i k : Nat) {hi : HB} {T : TypeId} {cs : List SC} {l : List α} (ei : hp[i]? = some hi) (ek : hp[k]? = some (.b true T cs)) (hne : i ≠ k) (hg : hi.blk (nm β i) = some g) (hd : dens β cs = l.flatMap cf) : Turns w w' g D0 (fun w => D1 w ∧ RdX cf w (some ⟨nm β k, 0, none⟩) l) := fun L hL hg' hk => by
  refine (C.turns H L hL hg' hk).and ?_
  refine rdX_keeps (H.rdB k ek hd) fun a ha hx => ?_
  injection ha with ha
  subst ha
  have h1 := (C.fresh H (x := nm β k) ei ek hne hg rfl rfl).1
  have h2 := hL _ hx
  simp at h2
  omega
/-- A slice of ours, for a callee that turns g. -/
theorem Mem.keepS (H : Mem w0 L β hp w) (i k : Nat) {hi : HB} {A : Option Addr} {cap n : Nat} {l : List α} (hl : l.length = n) (ei : hp[i]? = some hi) (ek : hp[k]? = some (.s A cap n E size (l.flatMap cf))) (hne : i ≠ k) (hg : hi.blk (nm β i) = some g) : Keeps w [g] (fun w => RdX cf w A l) :=
  rdX_keeps (H.rdX k hl ek) fun a ha hx => hne (H.inj i k _ _ g ei ek hg (by subst ha; exact congrArg some (List.mem_singleton.1 hx)))
theorem Mem.keepB (H : Mem w0 L β hp w) (i k : Nat) {hi : HB} {wr : Bool} {T : TypeId} {cs : List SC} {l : List α} (ei : hp[i]? = some hi) (ek : hp[k]? = some (.b wr T cs)) (hne : i ≠ k) (hg : hi.blk (nm β i) = some g) (hd : dens β cs = l.flatMap cf) : Keeps w [g] (fun w => RdX cf w (some ⟨nm β k, 0, none⟩) l) :=
  rdX_keeps (H.rdB k ek hd) fun a ha hx => hne (H.inj i k _ _ g ei ek hg (by injection ha with ha; subst ha; exact congrArg some (List.mem_singleton.1 hx)))
end
theorem Cx.move (C : Cx w g D0 w1 L1 D1) (H : Mem w1 L1 β hp w2) (O : Only [g] w2 w') (T : Turns w2 w' g D1 D2) (hgm : g ∈ wrN β hp) : Cx w g D0 w' (wrN β hp) D2 := by
  have hO := H.only
  have key : ∀ x ∈ wrN β hp, x ∈ L1 ∨ w1.heap.size ≤ x := fun x hx => by
    obtain ⟨k, h, b, h1, h2, h3, h4⟩ := wrN_mem.1 hx
    exact H.own k h x h1 h3 (by rw [nm_get h2]; exact h4)
  refine ⟨fun w3 O3 => C.back w3 ?_, fun x hx => ?_, hgm, Nat.le_trans C.size (Nat.le_trans hO.size O.size), C.old, C.k0, fun L hL hg hk => ?_⟩
  · exact (hO.trans (O.mono (L' := L1) (by simpa using C.has)) (fun x hx => .inl hx)).trans O3 key
  · rcases key x hx with h | h
    · exact C.mem x h
    · exact .inr (by have := C.size; omega)
  · have h1 := C.keep L hL hg hk
    have h2 : Keeps w2 (L ++ wrN β hp) D1 := h1.goN hO (fun x hx => .inl (by simp [hx])) (fun x hx => by
      rcases List.mem_append.1 hx with h | h
      · exact .inl (by simp [h])
      · rcases key x h with h | h
        · exact .inl (by simp [h])
        · exact .inr h)
    refine T _ (fun x hx => ?_) (by simp [hg]) h2
    rcases List.mem_append.1 hx with h | h
    · have := hL x h; have := C.size; have := hO.size; omega
    · exact H.wrN_lt x h
end
end Go.Proofs.YtmmcamkmglpgiaaGreatDoor
