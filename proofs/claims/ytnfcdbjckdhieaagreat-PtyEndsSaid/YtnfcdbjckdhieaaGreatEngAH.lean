/- The machine: calls that turn two blocks of ours; a function that is given several blocks; over any program; no condition. -/
import Derived.Test.YtnfcdbjckdhieaaGreatPkD
namespace Go.Proofs.YtnfcdbjckdhieaaGreat
set_option linter.all false
set_option maxRecDepth 100000
open Go.RowKit

/-- Whatever stays with all of L, of which all of G are, stays with them anew. -/
def TurnsL (w w' : World) (G : List Nat) (Q Q' : World → Prop) : Prop := ∀ L : List Nat, (∀ x ∈ L, x < w.heap.size) → (∀ x ∈ G, x ∈ L) → Keeps w L Q → Keeps w' L Q'
section
variable {w w0 w1 w2 w' : World} {L L1 L' β G : List Nat} {hp : List HB} {g p : Nat} {Q Q' Q'' F D0 D1 D2 : World → Prop}
theorem TurnsL.of (h : Turns w w' g Q Q') (hg : g ∈ G) : TurnsL w w' G Q Q' := fun L hL hG hk => h L hL (hG g hg) hk
theorem TurnsL.same (O : Only G w w') : TurnsL w w' G Q Q := fun L _ hg h => h.go (O.mono hg)
theorem TurnsL.trans (O : Only G w w1) (h : TurnsL w w1 G Q Q') (h' : TurnsL w1 w2 G Q' Q'') : TurnsL w w2 G Q Q'' := fun L hL hg hk => h' L (fun x hx => Nat.lt_of_lt_of_le (hL x hx) O.size) hg (h L hL hg hk)
theorem TurnsL.imp (h : TurnsL w w' G Q Q') (f : ∀ w, Q' w → Q'' w) : TurnsL w w' G Q Q'' := fun L hL hg hk => (h L hL hg hk).imp f
theorem TurnsL.andR (O : Only G w w') (h : TurnsL w w' G Q Q') : TurnsL w w' G (fun w => Q w ∧ F w) (fun w => Q' w ∧ F w) := fun L hL hg hk =>
  (h L hL hg (hk.imp fun _ h => h.1)).and ((hk.imp fun _ h => h.2).go (O.mono hg))
/-- A call that turns G, at a later world of it; what is known of the rest. -/
structure Gx (w : World) (G : List Nat) (D0 : World → Prop) (w1 : World) (L1 : List Nat) (D1 : World → Prop) : Prop where
  back : Back w G w1 L1
  mem : ∀ x ∈ L1, x ∈ G ∨ w.heap.size ≤ x
  has : ∀ x ∈ G, x ∈ L1
  size : w.heap.size ≤ w1.heap.size
  old : ∀ x ∈ G, x < w.heap.size
  k0 : Keeps w G D0
  keep : ∀ L : List Nat, (∀ x ∈ L, x < w.heap.size) → (∀ x ∈ G, x ∈ L) → Keeps w L D0 → Keeps w1 (L ++ L1) D1
theorem Gx.start (hk : Keeps w G D0) (hg : ∀ x ∈ G, x < w.heap.size) : Gx w G D0 w G D0 :=
  ⟨Back.refl, fun x hx => .inl hx, fun x hx => hx, Nat.le_refl _, hg, hk, fun L _ hg hk => hk.mono fun x hx => by
    rcases List.mem_append.1 hx with h | h
    · exact h
    · exact hg x h⟩
theorem Gx.keeps (C : Gx w G D0 w1 L1 D1) : Keeps w1 L1 D1 := (C.keep G C.old (fun _ h => h) C.k0).mono fun x hx => by simp [hx]
theorem Gx.now (C : Gx w G D0 w1 L1 D1) (H : Mem w1 L1 β hp w') : D1 w' := C.keeps.now H
theorem Gx.keepsAt (C : Gx w G D0 w1 L1 D1) (H : Mem w1 L1 β hp w') (hL : ∀ x ∈ L', x ∈ L1 ∨ w1.heap.size ≤ x) : Keeps w' L' D1 := C.keeps.goN H.only (fun x hx => .inl hx) hL
theorem Gx.imp (C : Gx w G D0 w1 L1 D1) (f : ∀ w, D1 w → D2 w) : Gx w G D0 w1 L1 D2 := ⟨C.back, C.mem, C.has, C.size, C.old, C.k0, fun L hL hg hk => (C.keep L hL hg hk).imp f⟩
theorem Gx.only (C : Gx w G D0 w1 L1 D1) (H : Mem w1 L1 β hp w') : Only G w w' := C.back w' H.only
theorem Gx.turns (C : Gx w G D0 w1 L1 D1) (H : Mem w1 L1 β hp w') : TurnsL w w' G D0 D1 := fun L hL hg hk =>
  (C.keep L hL hg hk).goN H.only (fun x hx => .inl (by simp [hx])) (fun x hx => .inl (by simp [hx]))
theorem Gx.move {G' : List Nat} (C : Gx w G D0 w1 L1 D1) (H : Mem w1 L1 β hp w2) (O : Only G' w2 w') (T : TurnsL w2 w' G' D1 D2) (hgm : ∀ x ∈ G', x ∈ wrN β hp) (hGm : ∀ x ∈ G, x ∈ wrN β hp) : Gx w G D0 w' (wrN β hp) D2 := by
  have hO := H.only
  have key := Nx.key H
  refine ⟨fun w3 O3 => C.back w3 ?_, fun x hx => ?_, hGm, Nat.le_trans C.size (Nat.le_trans hO.size O.size), C.old, C.k0, fun L hL hg hk => ?_⟩
  · exact (hO.trans O (fun x hx => key x (hgm x hx))).trans O3 key
  · rcases key x hx with h | h
    · exact C.mem x h
    · exact .inr (by have := C.size; omega)
  · have h1 := C.keep L hL hg hk
    have h2 : Keeps w2 (L ++ wrN β hp) D1 := h1.goN hO (fun x hx => .inl (by simp [hx])) (fun x hx => by
      rcases List.mem_append.1 hx with h | h
      · exact .inl (by simp [h])
      · rcases key x h with h | h
        · exact .inl (by simp [h])
        · exact .inr h)
    refine T _ (fun x hx => ?_) (fun x hx => by simp [hgm x hx]) h2
    rcases List.mem_append.1 hx with h | h
    · have := hL x h; have := C.size; have := hO.size; omega
    · exact H.wrN_lt x h
theorem Nx.moveG {G' : List Nat} (C : Nx w w1 L1 D1) (H : Mem w1 L1 β hp w2) (O : Only G' w2 w') (T : TurnsL w2 w' G' D1 D2) (hg : ∀ x ∈ G', x ∈ wrN β hp) : Nx w w' (wrN β hp) D2 := by
  have hO := H.only
  have key := Nx.key H
  refine ⟨fun w3 O3 => C.back w3 ?_, fun x hx => ?_, Nat.le_trans C.size (Nat.le_trans hO.size O.size), fun L hL => ?_⟩
  · exact (hO.trans O (fun x hx => key x (hg x hx))).trans O3 key
  · rcases key x hx with h | h
    · exact C.mem x h
    · have := C.size; omega
  · refine T _ (fun x hx => ?_) (fun x hx => by simp [hg x hx]) ?_
    · rcases List.mem_append.1 hx with h | h
      · have := hL x h; have := C.size; have := hO.size; omega
      · exact H.wrN_lt x h
    · exact (C.keep L hL).goN hO (fun x hx => .inl (by simp [hx])) (fun x hx => by
        rcases List.mem_append.1 hx with h | h
        · exact .inl (by simp [h])
        · rcases key x h with h | h
          · exact .inl (by simp [h])
          · exact .inr h)
/-- Two blocks turn. -/
theorem Mem.put2 {k1 k2 T1 T2 : Nat} {c1 c2 c1' c2' : List SC} (H : Mem w0 L β hp w) (h1 : hp[k1]? = some (.b true T1 c1)) (h2 : hp[k2]? = some (.b true T2 c2)) (hne : k1 ≠ k2) (O : Only [nm β k1, nm β k2] w w') (B1 : Blk w' (nm β k1) T1 (dens β c1')) (B2 : Blk w' (nm β k2) T2 (dens β c2')) : Mem w0 L β ((hp.set k1 (.b true T1 c1')).set k2 (.b true T2 c2')) w' := by
  refine H.turn O (fun x hx => ?_) (by simp) fun j h' hj => ?_
  · simp only [List.mem_cons, List.not_mem_nil, or_false] at hx
    rcases hx with rfl | rfl
    · exact H.own k1 _ _ h1 rfl rfl
    · exact H.own k2 _ _ h2 rfl rfl
  · by_cases e2 : k2 = j
    · subst e2
      have hl : k2 < hp.length := (List.getElem?_eq_some_iff.1 h2).1
      rw [List.getElem?_set_self (by simpa using hl)] at hj
      injection hj with hj
      subst hj
      exact .inr (.inr ⟨_, h2, rfl, rfl, B2⟩)
    · rw [List.getElem?_set_ne e2] at hj
      by_cases e1 : k1 = j
      · subst e1
        have hl : k1 < hp.length := (List.getElem?_eq_some_iff.1 h1).1
        rw [List.getElem?_set_self hl] at hj
        injection hj with hj
        subst hj
        exact .inr (.inr ⟨_, h1, rfl, rfl, B1⟩)
      · rw [List.getElem?_set_ne e1] at hj
        refine .inr (.inl ⟨hj, fun x hx hm => ?_⟩)
        simp only [List.mem_cons, List.not_mem_nil, or_false] at hm
        rcases hm with rfl | rfl
        · exact e1 (H.inj k1 j _ _ _ h1 hj rfl hx)
        · exact e2 (H.inj k2 j _ _ _ h2 hj rfl hx)
end
section
variable {P : Program} {f : FuncId} {R : Ending → World → Prop} {n : Nat} {w0 w00 : World} {L G : List Nat} {β : List Nat} {m : SM} {D0 D1 : World → Prop}
/-- A block's cells, written otherwise. -/
theorem Hs.reb (k : Nat) {T : TypeId} {cs : List SC} (cs' : List SC) (hk : m.hp[k]? = some (.b true T cs)) (hd : dens β cs = dens β cs') (hwf : cs'.all (SC.wf m.hp.length) = true) (hr : (match m.r with | .no => true | .lst .. => true | .lstN .. => true | _ => false) = true) (h : Hs P f R n w0 L β ⟨m.r, m.todo, m.sl, m.hp.set k (.b true T cs')⟩) : Hs P f R n w0 L β m := by
  refine ⟨fun w H W => ?_⟩
  have hl : k < m.hp.length := (List.getElem?_eq_some_iff.1 hk).1
  have H' : Mem w0 L β (m.hp.set k (.b true T cs')) w := H.turn (Only.refl [] w) (by simp) (by simp) fun j h' hj => by
    by_cases e : k = j
    · subst e
      rw [List.getElem?_set_self hl] at hj
      injection hj with hj
      subst hj
      refine .inr (.inr ⟨_, hk, rfl, rfl, ?_⟩)
      have := H.at k hk
      rw [hd] at this
      exact this
    · rw [List.getElem?_set_ne e] at hj
      exact .inr (.inl ⟨hj, by simp⟩)
  have g2 := h.go w H' (by
    simp only [SM.wf, Bool.and_eq_true] at W ⊢
    rw [List.length_set]
    refine ⟨W.1, List.all_eq_true.2 fun y hy => ?_⟩
    rcases List.mem_or_eq_of_mem_set hy with hy | rfl
    · exact List.all_eq_true.1 W.2 y hy
    · exact hwf)
  obtain ⟨r, todo, sl, hp⟩ := m
  cases r with
  | no => exact g2
  | lst => exact g2
  | lstN => exact g2
  | _ => cases hr
/-- A call that turns one block of ours. -/
theorem Hs.call1 {X : Type} (k : Nat) {g : Nat} {T : TypeId} {cs0 : List SC} (v : X → Value) (cs : X → List SC) {Fn : FuncId} {args : Array Value} (Q : X → World → World → Prop)
    (hβ : β[k]? = some g) (hk : m.hp[k]? = some (.b true T cs0))
    (hC : ∀ w, Mem w0 L β m.hp w → Blk w g T (dens β cs0) → Calls P Fn args w fun e w' => ∃ x, e = .returned (v x) ∧ Only [g] w w' ∧ Blk w' g T (dens β (cs x)) ∧ Q x w w')
    (hc : callOf P n β m = some (Fn, args)) (hrd : rdOf m = []) (hwf : ∀ x, (cs x).all (SC.wf m.hp.length) = true)
    (h : ∀ x w w', Mem w0 L β m.hp w → Only [g] w w' → Q x w w' → Hs P f R n w' (wrN β m.hp) β (m.put (dstOf m) (.c (.v (v x))) (m.hp.set k (.b true T (cs x))))) : Hs P f R n w0 L β m := by
  have hnm := nm_get hβ
  refine ⟨fun w H W => ?_⟩
  unfold callOf at hc
  split at hc
  · rename_i o ho
    split at hc
    · rename_i hg
      split at hc
      · rename_i F' args' hp
        injection hc with hc
        injection hc with h1 h2
        subst h1; subst h2
        have hd : dstOf m = o.dst := by unfold dstOf; rw [ho]
        rw [hd] at h
        refine Gs.op ho hg ?_
        unfold Oper.wp
        rw [fr_eval, pureOut_run P _ _ hp w]
        refine Calls.mono (hC w H (by have := H.at k hk; rw [hnm] at this; exact this)) ?_
        rintro e w' ⟨x, rfl, O, hB, hT⟩
        have H' := H.put hk (by rw [hnm]; exact O) (by rw [hnm]; exact hB : Blk w' (nm β k) T (dens β (cs x)))
        have hwr : wrN β (m.hp.set k (.b true T (cs x))) = wrN β m.hp := wrN_set (h := .b true T cs0) (h' := .b true T (cs x)) rfl (fun _ => rfl) hk
        have g2 := h x w w' H O hT
        rw [← hwr] at g2
        refine ⟨β, putS o.dst (.c (.v (v x))) m.sl, m.hp.set k (.b true T (cs x)), fr_put n β m.sl o.dst (.c (.v (v x))), fun w2 hI => ?_, g2.go w' H'.rebase ?_⟩
        · rw [hrd]; intro i hi; cases hi
        · simp only [SM.wf, SM.put, Bool.and_eq_true]
          refine ⟨?_, ?_⟩
          · rw [List.length_set]; exact putS_wf (SM.wf_sl W) rfl
          · rw [List.length_set]
            refine List.all_eq_true.2 fun y hy => ?_
            rcases List.mem_or_eq_of_mem_set hy with hy | rfl
            · exact List.all_eq_true.1 (SM.wf_hp W) y hy
            · exact hwf x
      · cases hc
    · cases hc
  · cases hc
/-- A call that turns two blocks of ours. -/
theorem Hs.call2 {X : Type} (k1 k2 : Nat) {p g : Nat} {T1 T2 : TypeId} {c1 c2 : List SC} (v : X → Value) (cs1 cs2 : X → List SC) {Fn : FuncId} {args : Array Value} (Q : X → World → World → Prop)
    (hb1 : β[k1]? = some p) (hb2 : β[k2]? = some g) (hk1 : m.hp[k1]? = some (.b true T1 c1)) (hk2 : m.hp[k2]? = some (.b true T2 c2)) (hne : k1 ≠ k2)
    (hC : ∀ w, Mem w0 L β m.hp w → Blk w p T1 (dens β c1) → Blk w g T2 (dens β c2) → Calls P Fn args w fun e w' => ∃ x, e = .returned (v x) ∧ Only [p, g] w w' ∧ Blk w' p T1 (dens β (cs1 x)) ∧ Blk w' g T2 (dens β (cs2 x)) ∧ Q x w w')
    (hc : callOf P n β m = some (Fn, args)) (hrd : rdOf m = []) (hwf : ∀ x, (cs1 x).all (SC.wf m.hp.length) = true ∧ (cs2 x).all (SC.wf m.hp.length) = true)
    (h : ∀ x w w', Mem w0 L β m.hp w → Only [p, g] w w' → Q x w w' → Hs P f R n w' (wrN β m.hp) β (m.put (dstOf m) (.c (.v (v x))) ((m.hp.set k1 (.b true T1 (cs1 x))).set k2 (.b true T2 (cs2 x))))) : Hs P f R n w0 L β m := by
  have hn1 := nm_get hb1
  have hn2 := nm_get hb2
  refine ⟨fun w H W => ?_⟩
  unfold callOf at hc
  split at hc
  · rename_i o ho
    split at hc
    · rename_i hg
      split at hc
      · rename_i F' args' hp
        injection hc with hc
        injection hc with h1 h2
        subst h1; subst h2
        have hd : dstOf m = o.dst := by unfold dstOf; rw [ho]
        rw [hd] at h
        refine Gs.op ho hg ?_
        unfold Oper.wp
        rw [fr_eval, pureOut_run P _ _ hp w]
        refine Calls.mono (hC w H (by have := H.at k1 hk1; rw [hn1] at this; exact this) (by have := H.at k2 hk2; rw [hn2] at this; exact this)) ?_
        rintro e w' ⟨x, rfl, O, hB1, hB2, hT⟩
        have H' := H.put2 hk1 hk2 hne (by rw [hn1, hn2]; exact O) (by rw [hn1]; exact hB1 : Blk w' (nm β k1) T1 (dens β (cs1 x))) (by rw [hn2]; exact hB2 : Blk w' (nm β k2) T2 (dens β (cs2 x)))
        have hwr : wrN β ((m.hp.set k1 (.b true T1 (cs1 x))).set k2 (.b true T2 (cs2 x))) = wrN β m.hp :=
          (wrN_set (h := .b true T2 c2) (h' := .b true T2 (cs2 x)) rfl (fun _ => rfl) (by rw [List.getElem?_set_ne hne]; exact hk2)).trans (wrN_set (h := .b true T1 c1) (h' := .b true T1 (cs1 x)) rfl (fun _ => rfl) hk1)
        have g2 := h x w w' H O hT
        rw [← hwr] at g2
        refine ⟨β, putS o.dst (.c (.v (v x))) m.sl, (m.hp.set k1 (.b true T1 (cs1 x))).set k2 (.b true T2 (cs2 x)), fr_put n β m.sl o.dst (.c (.v (v x))), fun w2 hI => ?_, g2.go w' H'.rebase ?_⟩
        · rw [hrd]; intro i hi; cases hi
        · simp only [SM.wf, SM.put, Bool.and_eq_true]
          rw [List.length_set, List.length_set]
          refine ⟨putS_wf (SM.wf_sl W) rfl, List.all_eq_true.2 fun y hy => ?_⟩
          rcases List.mem_or_eq_of_mem_set hy with hy | rfl
          · rcases List.mem_or_eq_of_mem_set hy with hy | rfl
            · exact List.all_eq_true.1 (SM.wf_hp W) y hy
            · exact (hwf x).1
          · exact (hwf x).2
      · cases hc
    · cases hc
  · cases hc
/-- A method that turns one block of ours, in a function that is given several. -/
theorem Hs.callG {X : Type} (k : Nat) {g : Nat} {T : TypeId} {cs0 : List SC} (v : X → Value) (cs : X → List SC) {A F : World → Prop} (A' : X → World → Prop) {Fn : FuncId} {args : Array Value}
    (C : Gx w00 G D0 w0 L (fun w => A w ∧ F w)) (hG : ∀ x ∈ G, x ∈ wrN β m.hp) (hβ : β[k]? = some g) (hk : m.hp[k]? = some (.b true T cs0))
    (hC : ∀ w, Mem w0 L β m.hp w → Blk w g T (dens β cs0) → Keeps w [g] A → Calls P Fn args w fun e w' => ∃ x, e = .returned (v x) ∧ Only [g] w w' ∧ Blk w' g T (dens β (cs x)) ∧ Turns w w' g A (A' x))
    (hc : callOf P n β m = some (Fn, args)) (hrd : rdOf m = []) (hwf : ∀ x, (cs x).all (SC.wf m.hp.length) = true)
    (h : ∀ x w1 L1, Gx w00 G D0 w1 L1 (fun w => A' x w ∧ F w) → Hs P f R n w1 L1 β (m.put (dstOf m) (.c (.v (v x))) (m.hp.set k (.b true T (cs x))))) : Hs P f R n w0 L β m := by
  have hgm : g ∈ wrN β m.hp := wrN_mem.2 ⟨k, _, g, hk, hβ, rfl, rfl⟩
  refine Hs.call1 k v cs (fun x w w' => Turns w w' g A (A' x)) hβ hk (fun w H hB => hC w H hB ((C.keepsAt H fun x hx => by
    rw [List.mem_singleton.1 hx]
    exact Nx.key H g hgm).imp fun _ h => h.1)) hc hrd hwf fun x w w' H O T => ?_
  exact h x w' _ (C.move H O (TurnsL.of (Turns.andR O T) (by simp)) (fun x hx => by rw [List.mem_singleton.1 hx]; exact hgm) hG)
/-- A call that makes some thing that stays, in a function that is given several blocks. -/
theorem Hs.callGM {X : Type} {v : X → Value} {Q : X → World → Prop} {Fn : FuncId} {args : Array Value} (C : Gx w00 G D0 w0 L D1) (hG : ∀ x ∈ G, x ∈ wrN β m.hp) (hC : ∀ w, Mem w0 L β m.hp w → Calls P Fn args w (NewX w v Q)) (hc : callOf P n β m = some (Fn, args)) (hrd : rdOf m = [])
    (h : ∀ x w1 L1, Gx w00 G D0 w1 L1 (fun w => Q x w ∧ D1 w) → Hs P f R n w1 L1 β (m.put (dstOf m) (.c (.v (v x))) m.hp)) : Hs P f R n w0 L β m :=
  Hs.callE v (fun x w w' => ∀ L : List Nat, (∀ y ∈ L, y < w.heap.size) → Keeps w' L (Q x)) hC hc hrd fun x w w1 H O q B hL => h x w1 _ (C.move (G' := []) H O (fun L hL _ hk => (q L hL).and (hk.go (O.mono (by simp)))) (by simp) hG)
/-- A call of what turns two blocks, in a function that is given several. -/
theorem Hs.callG2 {X : Type} (k1 k2 : Nat) {p g : Nat} {T1 T2 : TypeId} {c1 c2 : List SC} (v : X → Value) (cs1 cs2 : X → List SC) {A F : World → Prop} (A' : X → World → Prop) {Fn : FuncId} {args : Array Value}
    (C : Gx w00 G D0 w0 L (fun w => A w ∧ F w)) (hG : ∀ x ∈ G, x ∈ wrN β m.hp) (hb1 : β[k1]? = some p) (hb2 : β[k2]? = some g) (hk1 : m.hp[k1]? = some (.b true T1 c1)) (hk2 : m.hp[k2]? = some (.b true T2 c2)) (hne : k1 ≠ k2)
    (hC : ∀ w, Mem w0 L β m.hp w → Blk w p T1 (dens β c1) → Blk w g T2 (dens β c2) → Keeps w [p, g] A → Calls P Fn args w fun e w' => ∃ x, e = .returned (v x) ∧ Only [p, g] w w' ∧ Blk w' p T1 (dens β (cs1 x)) ∧ Blk w' g T2 (dens β (cs2 x)) ∧ TurnsL w w' [p, g] A (A' x))
    (hc : callOf P n β m = some (Fn, args)) (hrd : rdOf m = []) (hwf : ∀ x, (cs1 x).all (SC.wf m.hp.length) = true ∧ (cs2 x).all (SC.wf m.hp.length) = true)
    (h : ∀ x w1 L1, Gx w00 G D0 w1 L1 (fun w => A' x w ∧ F w) → Hs P f R n w1 L1 β (m.put (dstOf m) (.c (.v (v x))) ((m.hp.set k1 (.b true T1 (cs1 x))).set k2 (.b true T2 (cs2 x))))) : Hs P f R n w0 L β m := by
  have hm : ∀ x ∈ [p, g], x ∈ wrN β m.hp := fun x hx => by
    simp only [List.mem_cons, List.not_mem_nil, or_false] at hx
    rcases hx with rfl | rfl
    · exact wrN_mem.2 ⟨k1, _, _, hk1, hb1, rfl, rfl⟩
    · exact wrN_mem.2 ⟨k2, _, _, hk2, hb2, rfl, rfl⟩
  refine Hs.call2 k1 k2 v cs1 cs2 (fun x w w' => TurnsL w w' [p, g] A (A' x)) hb1 hb2 hk1 hk2 hne (fun w H B1 B2 => hC w H B1 B2 ((C.keepsAt H fun x hx => Nx.key H x (hm x hx)).imp fun _ h => h.1)) hc hrd hwf fun x w w' H O T => ?_
  exact h x w' _ (C.move H O (TurnsL.andR O T) hm hG)
/-- The same, where the blocks are our own. -/
theorem Hs.callN2 {X : Type} (k1 k2 : Nat) {p g : Nat} {T1 T2 : TypeId} {c1 c2 : List SC} (v : X → Value) (cs1 cs2 : X → List SC) {A F : World → Prop} (A' : X → World → Prop) {Fn : FuncId} {args : Array Value}
    (C : Nx w00 w0 L (fun w => A w ∧ F w)) (hb1 : β[k1]? = some p) (hb2 : β[k2]? = some g) (hk1 : m.hp[k1]? = some (.b true T1 c1)) (hk2 : m.hp[k2]? = some (.b true T2 c2)) (hne : k1 ≠ k2)
    (hC : ∀ w, Mem w0 L β m.hp w → Blk w p T1 (dens β c1) → Blk w g T2 (dens β c2) → Keeps w [p, g] A → Calls P Fn args w fun e w' => ∃ x, e = .returned (v x) ∧ Only [p, g] w w' ∧ Blk w' p T1 (dens β (cs1 x)) ∧ Blk w' g T2 (dens β (cs2 x)) ∧ TurnsL w w' [p, g] A (A' x))
    (hc : callOf P n β m = some (Fn, args)) (hrd : rdOf m = []) (hwf : ∀ x, (cs1 x).all (SC.wf m.hp.length) = true ∧ (cs2 x).all (SC.wf m.hp.length) = true)
    (h : ∀ x w1 L1, Nx w00 w1 L1 (fun w => A' x w ∧ F w) → Hs P f R n w1 L1 β (m.put (dstOf m) (.c (.v (v x))) ((m.hp.set k1 (.b true T1 (cs1 x))).set k2 (.b true T2 (cs2 x))))) : Hs P f R n w0 L β m := by
  have hm : ∀ x ∈ [p, g], x ∈ wrN β m.hp := fun x hx => by
    simp only [List.mem_cons, List.not_mem_nil, or_false] at hx
    rcases hx with rfl | rfl
    · exact wrN_mem.2 ⟨k1, _, _, hk1, hb1, rfl, rfl⟩
    · exact wrN_mem.2 ⟨k2, _, _, hk2, hb2, rfl, rfl⟩
  refine Hs.call2 k1 k2 v cs1 cs2 (fun x w w' => TurnsL w w' [p, g] A (A' x)) hb1 hb2 hk1 hk2 hne (fun w H B1 B2 => hC w H B1 B2 (((C.keeps.step H).mono fun x hx => hm x hx).imp fun _ h => h.1)) hc hrd hwf fun x w w' H O T => ?_
  exact h x w' _ (C.moveG H O (TurnsL.andR O T) hm)
end
/-- Two blocks that a function is given. -/
theorem Mem.two (w : World) (p g : Nat) {T1 T2 : Nat} {c1 c2 : List SC} (hne : p ≠ g) (h1 : Blk w p T1 (dens [p, g] c1)) (h2 : Blk w g T2 (dens [p, g] c2)) : Mem w [p, g] [p, g] [.b true T1 c1, .b true T2 c2] w :=
  Mem.start _ _ _ _ rfl (fun k h hk => by
    match k with
    | 0 => simp at hk; subst hk; exact h1
    | 1 => simp at hk; subst hk; exact h2
    | k + 2 => simp at hk) (fun k h x hk _ hx => by
    match k with
    | 0 => simp at hk; subst hk; simp only [HB.blk, Option.some.injEq] at hx; subst hx; simp [nm]
    | 1 => simp at hk; subst hk; simp only [HB.blk, Option.some.injEq] at hx; subst hx; simp [nm]
    | k + 2 => simp at hk) (fun i j hi hj x ei ej li lj => by
    match i, j with
    | 0, 0 => rfl
    | 1, 1 => rfl
    | 0, 1 =>
      simp at ei ej
      subst ei; subst ej
      simp [HB.blk, nm] at li lj
      exact absurd (li.trans lj.symm) hne
    | 1, 0 =>
      simp at ei ej
      subst ei; subst ej
      simp [HB.blk, nm] at li lj
      exact absurd (lj.trans li.symm) hne
    | i + 2, _ => simp at ei
    | _, j + 2 => simp at ej)
end Go.Proofs.YtnfcdbjckdhieaaGreat
