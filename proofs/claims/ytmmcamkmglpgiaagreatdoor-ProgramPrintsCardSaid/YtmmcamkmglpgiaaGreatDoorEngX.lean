/- The machine: a call that makes things that stay, one by one; over any program; no condition. -/
import Derived.Test.YtmmcamkmglpgiaaGreatDoorEngW
namespace Go.Proofs.YtmmcamkmglpgiaaGreatDoor
set_option linter.all false

/-- What a call has made stays. -/
def NewX {X : Type} (w : World) (v : X → Value) (Q : X → World → Prop) : Ending → World → Prop := fun e w' => ∃ x, e = .returned (v x) ∧ Only [] w w' ∧ ∀ L : List Nat, (∀ y ∈ L, y < w.heap.size) → Keeps w' L (Q x)
section
variable {w w0 w1 w2 w' : World} {L L1 L' β : List Nat} {hp : List HB} {Q D1 D2 : World → Prop}
/-- A later world of a call that writes nothing old; what is known of what it has made. -/
structure Nx (w w1 : World) (L1 : List Nat) (D1 : World → Prop) : Prop where
  back : Back w [] w1 L1
  mem : ∀ x ∈ L1, w.heap.size ≤ x
  size : w.heap.size ≤ w1.heap.size
  keep : ∀ L : List Nat, (∀ x ∈ L, x < w.heap.size) → Keeps w1 (L ++ L1) D1
theorem Nx.start (w : World) : Nx w w [] (fun _ => True) := ⟨Back.refl, by simp, Nat.le_refl _, fun _ _ _ _ => trivial⟩
theorem Nx.imp (C : Nx w w1 L1 D1) (f : ∀ w, D1 w → D2 w) : Nx w w1 L1 D2 := ⟨C.back, C.mem, C.size, fun L hL => (C.keep L hL).imp f⟩
theorem Nx.only (C : Nx w w1 L1 D1) (H : Mem w1 L1 β hp w') : Only [] w w' := C.back w' H.only
theorem Nx.keeps (C : Nx w w1 L1 D1) : Keeps w1 L1 D1 := (C.keep [] (by simp)).mono fun x hx => by simp [hx]
theorem Nx.now (C : Nx w w1 L1 D1) (H : Mem w1 L1 β hp w') : D1 w' := C.keeps.now H
theorem Nx.key (H : Mem w1 L1 β hp w2) : ∀ x ∈ wrN β hp, x ∈ L1 ∨ w1.heap.size ≤ x := fun x hx => by
  obtain ⟨k, h, b, h1, h2, h3, h4⟩ := wrN_mem.1 hx
  exact H.own k h x h1 h3 (by rw [nm_get h2]; exact h4)
/-- It stays, whatever of the blocks ks of the call's own turns. -/
theorem Nx.fin (C : Nx w w1 L1 D1) (H : Mem w1 L1 β hp w') : ∀ L : List Nat, (∀ x ∈ L, x < w.heap.size ∨ x ∈ wrN β hp) → Keeps w' L D1 := fun L hL => by
  have h1 := C.keep (L.filter fun x => decide (x < w.heap.size)) (fun x hx => by simpa using (List.mem_filter.1 hx).2)
  refine h1.goN H.only (fun x hx => .inl (by simp [hx])) (fun x hx => ?_)
  rcases hL x hx with h | h
  · exact .inl (by simp [hx, h])
  · rcases Nx.key H x h with h | h
    · exact .inl (by simp [h])
    · exact .inr h
theorem Nx.move (C : Nx w w1 L1 D1) (H : Mem w1 L1 β hp w2) (O : Only [] w2 w') (q : ∀ L : List Nat, (∀ y ∈ L, y < w2.heap.size) → Keeps w' L Q) : Nx w w' (wrN β hp) (fun w => Q w ∧ D1 w) := by
  have hO := H.only
  have key := Nx.key H
  refine ⟨fun w3 O3 => C.back w3 ?_, fun x hx => ?_, Nat.le_trans C.size (Nat.le_trans hO.size O.size), fun L hL => ?_⟩
  · exact (hO.trans (O.mono (L' := L1) (by simp)) (fun x hx => .inl hx)).trans O3 key
  · rcases key x hx with h | h
    · exact C.mem x h
    · have := C.size; omega
  · refine (q _ fun x hx => ?_).and ?_
    · rcases List.mem_append.1 hx with h | h
      · have := hL x h; have := C.size; have := hO.size; omega
      · exact H.wrN_lt x h
    · have h2 : Keeps w2 (L ++ wrN β hp) D1 := (C.keep L hL).goN hO (fun x hx => .inl (by simp [hx])) (fun x hx => by
        rcases List.mem_append.1 hx with h | h
        · exact .inl (by simp [h])
        · rcases key x h with h | h
          · exact .inl (by simp [h])
          · exact .inr h)
      exact h2.go (O.mono (by simp))
/-- A slice of ours, at the end. -/
theorem Nx.ownX {α : Type} {cf : α → List Value} {E size : Nat} (C : Nx w w1 L1 D1) (H : Mem w1 L1 β hp w') (k : Nat) {A : Option Addr} {cap nl : Nat} {l : List α} (hl : l.length = nl) (hk : hp[k]? = some (.s A cap nl E size (l.flatMap cf))) : OwnX cf E size w' w.heap.size (.slice A nl cap) l := by
  have h5 := H.ownX k hl hk
  obtain ⟨A1, cap1, e1, hc1, hc2, hr, hA⟩ := h5.form
  injection e1 with e1 e2 e3
  subst e1; subst e3
  subst hl
  unfold OwnX at h5 ⊢
  obtain ⟨h1, h2 | ⟨g, c, cur, e, _, hg, h4⟩⟩ := h5
  · exact ⟨h1, .inl h2⟩
  · refine ⟨h1, .inr ⟨g, c, cur, e, ?_, hg, h4⟩⟩
    injection e with e1
    subst e1
    rcases H.own k _ g hk rfl rfl with h | h
    · exact C.mem g h
    · have := C.size; omega
end
section
variable {P : Program} {f : FR} {R : Ending → World → Prop} {n : Nat} {w0 w00 : World} {L : List Nat} {β : List Nat} {m : SM} {D1 : World → Prop}
/-- A call that makes what stays, counted on. -/
theorem Hs.callM {X : Type} {v : X → Value} {Q : X → World → Prop} {F : FuncId} {args : Array Value} (C : Nx w00 w0 L D1) (hC : ∀ w, Mem w0 L β m.hp w → Calls P F args w (NewX w v Q)) (hc : callOf P n β m = some (F, args)) (hrd : rdOf m = [])
    (h : ∀ x w1 L1, Nx w00 w1 L1 (fun w => Q x w ∧ D1 w) → Hs P f R n w1 L1 β (m.put (dstOf m) (.c (.v (v x))) m.hp)) : Hs P f R n w0 L β m :=
  Hs.callE v (fun x w w' => ∀ L : List Nat, (∀ y ∈ L, y < w.heap.size) → Keeps w' L (Q x)) hC hc hrd fun x w w1 H O q B hL => h x w1 _ (C.move H O q)
end
end Go.Proofs.YtmmcamkmglpgiaaGreatDoor
