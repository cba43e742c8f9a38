/- The machine: calls that turn two blocks of ours; a function that is given several blocks; over any program; no condition · Layer 19: a text cut at its blanks; the table of kinds; which kind a word is; no condition but lengths · Layer 19: the table of kinds; which kind a word is; no condition · Layer 19: the operation that a line says; for all lines; where the library's tables hold what they hold · The machine: a way on that is shared by several ways; states that differ in the order of their slots alone. No condition · The machine: two structs compared (flat ones and nested ones; bools, numbers, strings); over any program; no condition · Layer 18: signals' names and numbers; for all numbers and names; no condition. -/
import Derived.Test.YtmmcamkmglpgiaaGreatDoorEngAC
import Derived.Lib.SplitLaws
import Derived.Test.YtmmcamkmglpgiaaGreatDoorPrD
import Derived.Test.YtmmcamkmglpgiaaGreatDoorPvA
import Derived.Test.YtmmcamkmglpgiaaGreatDoorEngF
import Derived.ChangeKeysEq
import Derived.Test.YtmmcamkmglpgiaaGreatDoorEngG
namespace Go.Proofs.YtmmcamkmglpgiaaGreatDoor
set_option linter.all false
set_option maxRecDepth 100000
open Go.RowKit

/-- Whatever stays with all of L, of which all of G are, stays with them anew. -/
def TurnsL (w w' : World) (G : List Nat) (Q Q' : World → Prop) : Prop := ∀ L : List Nat, (∀ x ∈ L, x < w.heap.size) → (∀ x ∈ G, x ∈ L) → Keeps w L Q → Keeps w' L Q'
section
variable {w w0 w1 w2 w' : World} {L L1 L' β G : List Nat} {hp : List HB} {g p : Nat} {Q Q' Q'' F D0 D1 D2 : World → Prop}
theorem TurnsL.of (h : Turns w w' g Q Q') (hg : g ∈ G) : TurnsL w w' G Q Q' := fun L hL hG hk => h L hL (hG g hg) hk
theorem TurnsL.same (O : Only G w w') : TurnsL w w' G Q Q := fun L _ hg h => h.go (O.mono hg)
theorem TurnsL.trans (O : Only G w w1) (h : TurnsL w w1 G Q Q') (h' : TurnsL w1 w2 G Q' Q'') : TurnsL w w2 G Q Q'' := fun L hL hg hk => h' L (fun x hx => Nat.lt_of_lt_of_le (hL x hx) O.size) hg (h L hL hg hk)
theorem TurnsL.imp (h : TurnsL w w' G Q Q') (f : ∀ w, Q' w → Q'' w) : TurnsL w w' G Q Q'' := fun L hL hg hk => (h L hL hg hk).imp f
theorem TurnsL.andR (O : Only G w w') (h : TurnsL w w' G Q Q') : TurnsL w w' G (fun w => Q w ∧ F w) (fun w => Q' w ∧ F w) := fun L hL hg hk =>
  (h L hL hg (hk.imp fun _ h => h.1)).and ((hk.imp fun _ h => h.2).go (O.mono hg))
/-- A call that turns G, at a later world of it; what is known of the rest. -/
structure Gx (w : World) (G : List Nat) (D0 : World → Prop) (w1 : World) (L1 : List Nat) (D1 : World → Prop) : Prop where
  back : Back w G w1 L1
  mem : ∀ x ∈ L1, x ∈ G ∨ w.heap.size ≤ x
  has : ∀ x ∈ G, x ∈ L1
  size : w.heap.size ≤ w1.heap.size
  old : ∀ x ∈ G, x < w.heap.size
  k0 : Keeps w G D0
  keep : ∀ L : List Nat, (∀ x ∈ L, x < w.heap.size) → (∀ x ∈ G, x ∈ L) → Keeps w L D0 → Keeps w1 (L ++ L1) D1
theorem Gx.start (hk : Keeps w G D0) (hg : ∀ x ∈ G, x < w.heap.size) : Gx w G D0 w G D0 :=
  ⟨Back.refl, fun x hx => .inl hx, fun x hx => hx, Nat.le_refl _, hg, hk, fun L _ hg hk => hk.mono fun x hx => by
    rcases List.mem_append.1 hx with h | h
    · exact h
    · exact hg x h⟩
theorem Gx.keeps (C : Gx w G D0 w1 L1 D1) : Keeps w1 L1 D1 := (C.keep G C.old (fun _ h => h) C.k0).mono fun x hx => by simp [hx]
theorem Gx.now (C : Gx w G D0 w1 L1 D1) (H : Mem w1 L1 β hp w') : D1 w' := C.keeps.now H
theorem Gx.keepsAt (C : Gx w G D0 w1 L1 D1) (H : Mem w1 L1 β hp w') (hL : ∀ x ∈ L', x ∈ L1 ∨ w1.heap.size ≤ x) : Keeps w' L' D1 := C.keeps.goN H.only (fun x hx => .inl hx) hL
theorem Gx.imp (C : Gx w G D0 w1 L1 D1) (f : ∀ w, D1 w → D2 w) : Gx w G D0 w1 L1 D2 := ⟨C.back, C.mem, C.has, C.size, C.old, C.k0, fun L hL hg hk => (C.keep L hL hg hk).imp f⟩
theorem Gx.only (C : Gx w G D0 w1 L1 D1) (H : Mem w1 L1 β hp w') : Only G w w' := C.back w' H.only
theorem Gx.turns (C : Gx w G D0 w1 L1 D1) (H : Mem w1 L1 β hp w') : TurnsL w w' G D0 D1 := fun L hL hg hk =>
  (C.keep L hL hg hk).goN H.only (fun x hx => .inl (by simp [hx])) (fun x hx => .inl (by simp [hx]))
theorem Gx.move {G' : List Nat} (C : Gx w G D0 w1 L1 D1) (H : Mem w1 L1 β hp w2) (O : Only G' w2 w') (T : TurnsL w2 w' G' D1 D2) (hgm : ∀ x ∈ G', x ∈ wrN β hp) (hGm : ∀ x ∈ G, x ∈ wrN β hp) : Gx w G D0 w' (wrN β hp) D2 := by
  have hO := H.only
  have key := Nx.key H
  refine ⟨fun w3 O3 => C.back w3 ?_, fun x hx => ?_, hGm, Nat.le_trans C.size (Nat.le_trans hO.size O.size), C.old, C.k0, fun L hL hg hk => ?_⟩
  · exact (hO.trans O (fun x hx => key x (hgm x hx))).trans O3 key
  · rcases key x hx with h | h
    · exact C.mem x h
    · exact .inr (by have := C.size; omega)
  · have h1 := C.keep L hL hg hk
    have h2 : Keeps w2 (L ++ wrN β hp) D1 := h1.goN hO (fun x hx => .inl (by simp [hx])) (fun x hx => by
      rcases List.mem_append.1 hx with h | h
      · exact .inl (by simp [h])
      · rcases key x h with h | h
        · exact .inl (by simp [h])
        · exact .inr h)
    refine T _ (fun x hx => ?_) (fun x hx => by simp [hgm x hx]) h2
    rcases List.mem_append.1 hx with h | h
    · have := hL x h; have := C.size; have := hO.size; omega
    · exact H.wrN_lt x h
theorem Nx.moveG {G' : List Nat} (C : Nx w w1 L1 D1) (H : Mem w1 L1 β hp w2) (O : Only G' w2 w') (T : TurnsL w2 w' G' D1 D2) (hg : ∀ x ∈ G', x ∈ wrN β hp) : Nx w w' (wrN β hp) D2 := by
  have hO := H.only
  have key := Nx.key H
  refine ⟨fun w3 O3 => C.back w3 ?_, fun x hx => ?_, Nat.le_trans C.size (Nat.le_trans hO.size O.size), fun L hL => ?_⟩
  · exact (hO.trans O (fun x hx => key x (hg x hx))).trans O3 key
  · rcases key x hx with h | h
    · exact C.mem x h
    · have := C.size; omega
  · refine T _ (fun x hx => ?_) (fun x hx => by simp [hg x hx]) ?_
    · rcases List.mem_append.1 hx with h | h
      · have := hL x h; have := C.size; have := hO.size; omega
      · exact H.wrN_lt x h
    · exact (C.keep L hL).goN hO (fun x hx => .inl (by simp [hx])) (fun x hx => by
        rcases List.mem_append.1 hx with h | h
        · exact .inl (by simp [h])
        · rcases key x h with h | h
          · exact .inl (by simp [h])
          · exact .inr h)
/-- Two blocks turn. -/
theorem Mem.put2 {k1 k2 T1 T2 : Nat} {c1 c2 c1' c2' : List SC} (H : Mem w0 L β hp w) (h1 : hp[k1]? = some (.b true T1 c1)) (h2 : hp[k2]? = some (.b true T2 c2)) (hne : k1 ≠ k2) (O : Only [nm β k1, nm β k2] w w') (B1 : Blk w' (nm β k1) T1 (dens β c1')) (B2 : Blk w' (nm β k2) T2 (dens β c2')) : Mem w0 L β ((hp.set k1 (.b true T1 c1')).set k2 (.b true T2 c2')) w' := by
  refine H.turn O (fun x hx => ?_) (by simp) fun j h' hj => ?_
  · simp only [List.mem_cons, List.not_mem_nil, or_false] at hx
    rcases hx with rfl | rfl
    · exact H.own k1 _ _ h1 rfl rfl
    · exact H.own k2 _ _ h2 rfl rfl
  · by_cases e2 : k2 = j
    · subst e2
      have hl : k2 < hp.length := (List.getElem?_eq_some_iff.1 h2).1
      rw [List.getElem?_set_self (by simpa using hl)] at hj
      injection hj with hj
      subst hj
      exact .inr (.inr ⟨_, h2, rfl, rfl, B2⟩)
    · rw [List.getElem?_set_ne e2] at hj
      by_cases e1 : k1 = j
      · subst e1
        have hl : k1 < hp.length := (List.getElem?_eq_some_iff.1 h1).1
        rw [List.getElem?_set_self hl] at hj
        injection hj with hj
        subst hj
        exact .inr (.inr ⟨_, h1, rfl, rfl, B1⟩)
      · rw [List.getElem?_set_ne e1] at hj
        refine .inr (.inl ⟨hj, fun x hx hm => ?_⟩)
        simp only [List.mem_cons, List.not_mem_nil, or_false] at hm
        rcases hm with rfl | rfl
        · exact e1 (H.inj k1 j _ _ _ h1 hj rfl hx)
        · exact e2 (H.inj k2 j _ _ _ h2 hj rfl hx)
end
section
variable {P : Program} {f : FR} {R : Ending → World → Prop} {n : Nat} {w0 w00 : World} {L G : List Nat} {β : List Nat} {m : SM} {D0 D1 : World → Prop}
/-- A block's cells, written otherwise. -/
theorem Hs.reb (k : Nat) {T : TypeId} {cs : List SC} (cs' : List SC) (hk : m.hp[k]? = some (.b true T cs)) (hd : dens β cs = dens β cs') (hwf : cs'.all (SC.wf m.hp.length) = true) (hr : (match m.r with | .no => true | .lst .. => true | .lstN .. => true | _ => false) = true) (h : Hs P f R n w0 L β ⟨m.r, m.todo, m.sl, m.hp.set k (.b true T cs')⟩) : Hs P f R n w0 L β m := by
  refine ⟨fun w H W => ?_⟩
  have hl : k < m.hp.length := (List.getElem?_eq_some_iff.1 hk).1
  have H' : Mem w0 L β (m.hp.set k (.b true T cs')) w := H.turn (Only.refl [] w) (by simp) (by simp) fun j h' hj => by
    by_cases e : k = j
    · subst e
      rw [List.getElem?_set_self hl] at hj
      injection hj with hj
      subst hj
      refine .inr (.inr ⟨_, hk, rfl, rfl, ?_⟩)
      have := H.at k hk
      rw [hd] at this
      exact this
    · rw [List.getElem?_set_ne e] at hj
      exact .inr (.inl ⟨hj, by simp⟩)
  have g2 := h.go w H' (by
    simp only [SM.wf, Bool.and_eq_true] at W ⊢
    rw [List.length_set]
    refine ⟨W.1, List.all_eq_true.2 fun y hy => ?_⟩
    rcases List.mem_or_eq_of_mem_set hy with hy | rfl
    · exact List.all_eq_true.1 W.2 y hy
    · exact hwf)
  obtain ⟨r, todo, sl, hp⟩ := m
  cases r with
  | no => exact g2
  | lst => exact g2
  | lstN => exact g2
  | _ => cases hr
/-- A call that turns one block of ours. -/
theorem Hs.call1 {X : Type} (k : Nat) {g : Nat} {T : TypeId} {cs0 : List SC} (v : X → Value) (cs : X → List SC) {Fn : FuncId} {args : Array Value} (Q : X → World → World → Prop)
    (hβ : β[k]? = some g) (hk : m.hp[k]? = some (.b true T cs0))
    (hC : ∀ w, Mem w0 L β m.hp w → Blk w g T (dens β cs0) → Calls P Fn args w fun e w' => ∃ x, e = .returned (v x) ∧ Only [g] w w' ∧ Blk w' g T (dens β (cs x)) ∧ Q x w w')
    (hc : callOf P n β m = some (Fn, args)) (hrd : rdOf m = []) (hwf : ∀ x, (cs x).all (SC.wf m.hp.length) = true)
    (h : ∀ x w w', Mem w0 L β m.hp w → Only [g] w w' → Q x w w' → Hs P f R n w' (wrN β m.hp) β (m.put (dstOf m) (.c (.v (v x))) (m.hp.set k (.b true T (cs x))))) : Hs P f R n w0 L β m := by
  have hnm := nm_get hβ
  refine ⟨fun w H W => ?_⟩
  unfold callOf at hc
  split at hc
  · rename_i o ho
    split at hc
    · rename_i hg
      split at hc
      · rename_i F' args' hp
        injection hc with hc
        injection hc with h1 h2
        subst h1; subst h2
        have hd : dstOf m = o.dst := by unfold dstOf; rw [ho]
        rw [hd] at h
        refine Gs.op ho hg ?_
        unfold Oper.wp
        rw [fr_eval, pureOut_run P _ _ hp w]
        refine Calls.mono (hC w H (by have := H.at k hk; rw [hnm] at this; exact this)) ?_
        rintro e w' ⟨x, rfl, O, hB, hT⟩
        have H' := H.put hk (by rw [hnm]; exact O) (by rw [hnm]; exact hB : Blk w' (nm β k) T (dens β (cs x)))
        have hwr : wrN β (m.hp.set k (.b true T (cs x))) = wrN β m.hp := wrN_set (h := .b true T cs0) (h' := .b true T (cs x)) rfl (fun _ => rfl) hk
        have g2 := h x w w' H O hT
        rw [← hwr] at g2
        refine ⟨β, putS o.dst (.c (.v (v x))) m.sl, m.hp.set k (.b true T (cs x)), fr_put n β m.sl o.dst (.c (.v (v x))), fun w2 hI => ?_, g2.go w' H'.rebase ?_⟩
        · rw [hrd]; intro i hi; cases hi
        · simp only [SM.wf, SM.put, Bool.and_eq_true]
          refine ⟨?_, ?_⟩
          · rw [List.length_set]; exact putS_wf (SM.wf_sl W) rfl
          · rw [List.length_set]
            refine List.all_eq_true.2 fun y hy => ?_
            rcases List.mem_or_eq_of_mem_set hy with hy | rfl
            · exact List.all_eq_true.1 (SM.wf_hp W) y hy
            · exact hwf x
      · cases hc
    · cases hc
  · cases hc
/-- A call that turns two blocks of ours. -/
theorem Hs.call2 {X : Type} (k1 k2 : Nat) {p g : Nat} {T1 T2 : TypeId} {c1 c2 : List SC} (v : X → Value) (cs1 cs2 : X → List SC) {Fn : FuncId} {args : Array Value} (Q : X → World → World → Prop)
    (hb1 : β[k1]? = some p) (hb2 : β[k2]? = some g) (hk1 : m.hp[k1]? = some (.b true T1 c1)) (hk2 : m.hp[k2]? = some (.b true T2 c2)) (hne : k1 ≠ k2)
    (hC : ∀ w, Mem w0 L β m.hp w → Blk w p T1 (dens β c1) → Blk w g T2 (dens β c2) → Calls P Fn args w fun e w' => ∃ x, e = .returned (v x) ∧ Only [p, g] w w' ∧ Blk w' p T1 (dens β (cs1 x)) ∧ Blk w' g T2 (dens β (cs2 x)) ∧ Q x w w')
    (hc : callOf P n β m = some (Fn, args)) (hrd : rdOf m = []) (hwf : ∀ x, (cs1 x).all (SC.wf m.hp.length) = true ∧ (cs2 x).all (SC.wf m.hp.length) = true)
    (h : ∀ x w w', Mem w0 L β m.hp w → Only [p, g] w w' → Q x w w' → Hs P f R n w' (wrN β m.hp) β (m.put (dstOf m) (.c (.v (v x))) ((m.hp.set k1 (.b true T1 (cs1 x))).set k2 (.b true T2 (cs2 x))))) : Hs P f R n w0 L β m := by
  have hn1 := nm_get hb1
  have hn2 := nm_get hb2
  refine ⟨fun w H W => ?_⟩
  unfold callOf at hc
  split at hc
  · rename_i o ho
    split at hc
    · rename_i hg
      split at hc
      · rename_i F' args' hp
        injection hc with hc
        injection hc with h1 h2
        subst h1; subst h2
        have hd : dstOf m = o.dst := by unfold dstOf; rw [ho]
        rw [hd] at h
        refine Gs.op ho hg ?_
        unfold Oper.wp
        rw [fr_eval, pureOut_run P _ _ hp w]
        refine Calls.mono (hC w H (by have := H.at k1 hk1; rw [hn1] at this; exact this) (by have := H.at k2 hk2; rw [hn2] at this; exact this)) ?_
        rintro e w' ⟨x, rfl, O, hB1, hB2, hT⟩
        have H' := H.put2 hk1 hk2 hne (by rw [hn1, hn2]; exact O) (by rw [hn1]; exact hB1 : Blk w' (nm β k1) T1 (dens β (cs1 x))) (by rw [hn2]; exact hB2 : Blk w' (nm β k2) T2 (dens β (cs2 x)))
        have hwr : wrN β ((m.hp.set k1 (.b true T1 (cs1 x))).set k2 (.b true T2 (cs2 x))) = wrN β m.hp :=
          (wrN_set (h := .b true T2 c2) (h' := .b true T2 (cs2 x)) rfl (fun _ => rfl) (by rw [List.getElem?_set_ne hne]; exact hk2)).trans (wrN_set (h := .b true T1 c1) (h' := .b true T1 (cs1 x)) rfl (fun _ => rfl) hk1)
        have g2 := h x w w' H O hT
        rw [← hwr] at g2
        refine ⟨β, putS o.dst (.c (.v (v x))) m.sl, (m.hp.set k1 (.b true T1 (cs1 x))).set k2 (.b true T2 (cs2 x)), fr_put n β m.sl o.dst (.c (.v (v x))), fun w2 hI => ?_, g2.go w' H'.rebase ?_⟩
        · rw [hrd]; intro i hi; cases hi
        · simp only [SM.wf, SM.put, Bool.and_eq_true]
          rw [List.length_set, List.length_set]
          refine ⟨putS_wf (SM.wf_sl W) rfl, List.all_eq_true.2 fun y hy => ?_⟩
          rcases List.mem_or_eq_of_mem_set hy with hy | rfl
          · rcases List.mem_or_eq_of_mem_set hy with hy | rfl
            · exact List.all_eq_true.1 (SM.wf_hp W) y hy
            · exact (hwf x).1
          · exact (hwf x).2
      · cases hc
    · cases hc
  · cases hc
/-- A method that turns one block of ours, in a function that is given several. -/
theorem Hs.callG {X : Type} (k : Nat) {g : Nat} {T : TypeId} {cs0 : List SC} (v : X → Value) (cs : X → List SC) {A F : World → Prop} (A' : X → World → Prop) {Fn : FuncId} {args : Array Value}
    (C : Gx w00 G D0 w0 L (fun w => A w ∧ F w)) (hG : ∀ x ∈ G, x ∈ wrN β m.hp) (hβ : β[k]? = some g) (hk : m.hp[k]? = some (.b true T cs0))
    (hC : ∀ w, Mem w0 L β m.hp w → Blk w g T (dens β cs0) → Keeps w [g] A → Calls P Fn args w fun e w' => ∃ x, e = .returned (v x) ∧ Only [g] w w' ∧ Blk w' g T (dens β (cs x)) ∧ Turns w w' g A (A' x))
    (hc : callOf P n β m = some (Fn, args)) (hrd : rdOf m = []) (hwf : ∀ x, (cs x).all (SC.wf m.hp.length) = true)
    (h : ∀ x w1 L1, Gx w00 G D0 w1 L1 (fun w => A' x w ∧ F w) → Hs P f R n w1 L1 β (m.put (dstOf m) (.c (.v (v x))) (m.hp.set k (.b true T (cs x))))) : Hs P f R n w0 L β m := by
  have hgm : g ∈ wrN β m.hp := wrN_mem.2 ⟨k, _, g, hk, hβ, rfl, rfl⟩
  refine Hs.call1 k v cs (fun x w w' => Turns w w' g A (A' x)) hβ hk (fun w H hB => hC w H hB ((C.keepsAt H fun x hx => by
    rw [List.mem_singleton.1 hx]
    exact Nx.key H g hgm).imp fun _ h => h.1)) hc hrd hwf fun x w w' H O T => ?_
  exact h x w' _ (C.move H O (TurnsL.of (Turns.andR O T) (by simp)) (fun x hx => by rw [List.mem_singleton.1 hx]; exact hgm) hG)
/-- A call that makes some thing that stays, in a function that is given several blocks. -/
theorem Hs.callGM {X : Type} {v : X → Value} {Q : X → World → Prop} {Fn : FuncId} {args : Array Value} (C : Gx w00 G D0 w0 L D1) (hG : ∀ x ∈ G, x ∈ wrN β m.hp) (hC : ∀ w, Mem w0 L β m.hp w → Calls P Fn args w (NewX w v Q)) (hc : callOf P n β m = some (Fn, args)) (hrd : rdOf m = [])
    (h : ∀ x w1 L1, Gx w00 G D0 w1 L1 (fun w => Q x w ∧ D1 w) → Hs P f R n w1 L1 β (m.put (dstOf m) (.c (.v (v x))) m.hp)) : Hs P f R n w0 L β m :=
  Hs.callE v (fun x w w' => ∀ L : List Nat, (∀ y ∈ L, y < w.heap.size) → Keeps w' L (Q x)) hC hc hrd fun x w w1 H O q B hL => h x w1 _ (C.move (G' := []) H O (fun L hL _ hk => (q L hL).and (hk.go (O.mono (by simp)))) (by simp) hG)
/-- A call of what turns two blocks, in a function that is given several. -/
theorem Hs.callG2 {X : Type} (k1 k2 : Nat) {p g : Nat} {T1 T2 : TypeId} {c1 c2 : List SC} (v : X → Value) (cs1 cs2 : X → List SC) {A F : World → Prop} (A' : X → World → Prop) {Fn : FuncId} {args : Array Value}
    (C : Gx w00 G D0 w0 L (fun w => A w ∧ F w)) (hG : ∀ x ∈ G, x ∈ wrN β m.hp) (hb1 : β[k1]? = some p) (hb2 : β[k2]? = some g) (hk1 : m.hp[k1]? = some (.b true T1 c1)) (hk2 : m.hp[k2]? = some (.b true T2 c2)) (hne : k1 ≠ k2)
    (hC : ∀ w, Mem w0 L β m.hp w → Blk w p T1 (dens β c1) → Blk w g T2 (dens β c2) → Keeps w [p, g] A → Calls P Fn args w fun e w' => ∃ x, e = .returned (v x) ∧ Only [p, g] w w' ∧ Blk w' p T1 (dens β (cs1 x)) ∧ Blk w' g T2 (dens β (cs2 x)) ∧ TurnsL w w' [p, g] A (A' x))
    (hc : callOf P n β m = some (Fn, args)) (hrd : rdOf m = []) (hwf : ∀ x, (cs1 x).all (SC.wf m.hp.length) = true ∧ (cs2 x).all (SC.wf m.hp.length) = true)
    (h : ∀ x w1 L1, Gx w00 G D0 w1 L1 (fun w => A' x w ∧ F w) → Hs P f R n w1 L1 β (m.put (dstOf m) (.c (.v (v x))) ((m.hp.set k1 (.b true T1 (cs1 x))).set k2 (.b true T2 (cs2 x))))) : Hs P f R n w0 L β m := by
  have hm : ∀ x ∈ [p, g], x ∈ wrN β m.hp := fun x hx => by
    simp only [List.mem_cons, List.not_mem_nil, or_false] at hx
    rcases hx with rfl | rfl
    · exact wrN_mem.2 ⟨k1, _, _, hk1, hb1, rfl, rfl⟩
    · exact wrN_mem.2 ⟨k2, _, _, hk2, hb2, rfl, rfl⟩
  refine Hs.call2 k1 k2 v cs1 cs2 (fun x w w' => TurnsL w w' [p, g] A (A' x)) hb1 hb2 hk1 hk2 hne (fun w H B1 B2 => hC w H B1 B2 ((C.keepsAt H fun x hx => Nx.key H x (hm x hx)).imp fun _ h => h.1)) hc hrd hwf fun x w w' H O T => ?_
  exact h x w' _ (C.move H O (TurnsL.andR O T) hm hG)
/-- The same, where the blocks are our own. -/
theorem Hs.callN2 {X : Type} (k1 k2 : Nat) {p g : Nat} {T1 T2 : TypeId} {c1 c2 : List SC} (v : X → Value) (cs1 cs2 : X → List SC) {A F : World → Prop} (A' : X → World → Prop) {Fn : FuncId} {args : Array Value}
    (C : Nx w00 w0 L (fun w => A w ∧ F w)) (hb1 : β[k1]? = some p) (hb2 : β[k2]? = some g) (hk1 : m.hp[k1]? = some (.b true T1 c1)) (hk2 : m.hp[k2]? = some (.b true T2 c2)) (hne : k1 ≠ k2)
    (hC : ∀ w, Mem w0 L β m.hp w → Blk w p T1 (dens β c1) → Blk w g T2 (dens β c2) → Keeps w [p, g] A → Calls P Fn args w fun e w' => ∃ x, e = .returned (v x) ∧ Only [p, g] w w' ∧ Blk w' p T1 (dens β (cs1 x)) ∧ Blk w' g T2 (dens β (cs2 x)) ∧ TurnsL w w' [p, g] A (A' x))
    (hc : callOf P n β m = some (Fn, args)) (hrd : rdOf m = []) (hwf : ∀ x, (cs1 x).all (SC.wf m.hp.length) = true ∧ (cs2 x).all (SC.wf m.hp.length) = true)
    (h : ∀ x w1 L1, Nx w00 w1 L1 (fun w => A' x w ∧ F w) → Hs P f R n w1 L1 β (m.put (dstOf m) (.c (.v (v x))) ((m.hp.set k1 (.b true T1 (cs1 x))).set k2 (.b true T2 (cs2 x))))) : Hs P f R n w0 L β m := by
  have hm : ∀ x ∈ [p, g], x ∈ wrN β m.hp := fun x hx => by
    simp only [List.mem_cons, List.not_mem_nil, or_false] at hx
    rcases hx with rfl | rfl
    · exact wrN_mem.2 ⟨k1, _, _, hk1, hb1, rfl, rfl⟩
    · exact wrN_mem.2 ⟨k2, _, _, hk2, hb2, rfl, rfl⟩
  refine Hs.call2 k1 k2 v cs1 cs2 (fun x w w' => TurnsL w w' [p, g] A (A' x)) hb1 hb2 hk1 hk2 hne (fun w H B1 B2 => hC w H B1 B2 (((C.keeps.step H).mono fun x hx => hm x hx).imp fun _ h => h.1)) hc hrd hwf fun x w w' H O T => ?_
  exact h x w' _ (C.moveG H O (TurnsL.andR O T) hm)
end
/-- Two blocks that a function is given. -/
theorem Mem.two (w : World) (p g : Nat) {T1 T2 : Nat} {c1 c2 : List SC} (hne : p ≠ g) (h1 : Blk w p T1 (dens [p, g] c1)) (h2 : Blk w g T2 (dens [p, g] c2)) : Mem w [p, g] [p, g] [.b true T1 c1, .b true T2 c2] w :=
  Mem.start _ _ _ _ rfl (fun k h hk => by
    match k with
    | 0 => simp at hk; subst hk; exact h1
    | 1 => simp at hk; subst hk; exact h2
    | k + 2 => simp at hk) (fun k h x hk _ hx => by
    match k with
    | 0 => simp at hk; subst hk; simp only [HB.blk, Option.some.injEq] at hx; subst hx; simp [nm]
    | 1 => simp at hk; subst hk; simp only [HB.blk, Option.some.injEq] at hx; subst hx; simp [nm]
    | k + 2 => simp at hk) (fun i j hi hj x ei ej li lj => by
    match i, j with
    | 0, 0 => rfl
    | 1, 1 => rfl
    | 0, 1 =>
      simp at ei ej
      subst ei; subst ej
      simp [HB.blk, nm] at li lj
      exact absurd (li.trans lj.symm) hne
    | 1, 0 =>
      simp at ei ej
      subst ei; subst ej
      simp [HB.blk, nm] at li lj
      exact absurd (lj.trans li.symm) hne
    | i + 2, _ => simp at ei
    | _, j + 2 => simp at ej)
end Go.Proofs.YtmmcamkmglpgiaaGreatDoor

namespace Go.Proofs.YtmmcamkmglpgiaaGreatDoor
open Go.RowKit
set_option linter.all false
set_option maxRecDepth 100000
def piecesS (s : ByteArray) : List ByteArray := Lib.splitB ⟨#[32]⟩ 0 (Lib.countB s ⟨#[32]⟩) s
/-- A text cut at its blanks. -/
def cutS : List UInt8 → List (List UInt8)
  | [] => [[]]
  | c :: s => if c = 32 then [] :: cutS s else (c :: (cutS s).headD []) :: (cutS s).tail
theorem cutS_ne (s : List UInt8) : ∃ h t, cutS s = h :: t := by
  cases s with
  | nil => exact ⟨[], [], rfl⟩
  | cons c s =>
    unfold cutS
    split
    · exact ⟨_, _, rfl⟩
    · exact ⟨_, _, rfl⟩
theorem idx_consS (c : UInt8) (l : List UInt8) (h : c ≠ 32) : Lib.index (c :: l) [32] = if Lib.index l [32] == -1 then -1 else Lib.index l [32] + 1 := by
  have hp : ([32] : List UInt8).isPrefixOf (c :: l) = false := by simp [List.isPrefixOf, Ne.symm h]
  rw [Lib.index, hp]; simp
theorem splitK_cutS : ∀ s : List UInt8, Lib.splitK [32] 0 (Lib.count s [32]) s = cutS s
  | [] => by
    rw [Lib.count_miss (by simp [Lib.index])]
    rfl
  | c :: l => by
    have ih := splitK_cutS l
    by_cases h : c = 32
    · subst h
      rw [Lib.count_cons_eq, Nat.add_comm]
      have hix : Lib.index (32 :: l) [32] = 0 := by rw [Lib.index]; simp [List.isPrefixOf]
      unfold Lib.splitK cutS
      rw [hix]
      simp [ih]
    · rw [Lib.count_cons_ne c 32 l h]
      have hix := idx_consS c l h
      unfold cutS
      rw [if_neg h]
      by_cases hm : Lib.index l [32] = -1
      · rw [Lib.count_miss hm] at ih ⊢
        rw [← ih]
        rfl
      · have hge := Lib.index_ge l [32]
        obtain ⟨j, hj⟩ : ∃ j : Nat, Lib.index l [32] = j := ⟨(Lib.index l [32]).toNat, by omega⟩
        have hix' : Lib.index (c :: l) [32] = ((j + 1 : Nat) : Int) := by rw [hix, if_neg (fun e => hm (beq_iff_eq.1 e)), hj]; omega
        rw [Lib.count_hit (by simp) hj, Nat.add_comm 1] at ih ⊢
        rw [← ih]
        unfold Lib.splitK
        rw [hj, hix', if_neg (fun e => by have := beq_iff_eq.1 e; omega), if_neg (fun e => by have := beq_iff_eq.1 e; omega)]
        simp
theorem cutS_one {x : List UInt8} (h : ∀ c ∈ x, c ≠ 32) : cutS x = [x] := by
  induction x with
  | nil => rfl
  | cons c x ih =>
    unfold cutS
    rw [if_neg (h c (by simp)), ih (fun d hd => h d (by simp [hd]))]
    rfl
theorem cutS_app {x : List UInt8} (h : ∀ c ∈ x, c ≠ 32) (s : List UInt8) : cutS (x ++ 32 :: s) = x :: cutS s := by
  induction x with
  | nil =>
    rw [List.nil_append]
    conv => lhs; unfold cutS
    rw [if_pos rfl]
  | cons c x ih =>
    rw [List.cons_append]
    conv => lhs; unfold cutS
    rw [if_neg (h c (by simp)), ih (fun d hd => h d (by simp [hd]))]
    rfl
theorem cutS_len : ∀ (s : List UInt8), ∀ y ∈ cutS s, y.length ≤ s.length
  | [], y, h => by simp [cutS] at h; subst h; simp
  | c :: s, y, h => by
    unfold cutS at h
    obtain ⟨a, t, e⟩ := cutS_ne s
    have ih := cutS_len s
    rw [e] at ih h
    split at h
    · rcases List.mem_cons.1 h with rfl | h
      · simp
      · have := ih y h; simp; omega
    · rcases List.mem_cons.1 h with rfl | h
      · have := ih a (by simp); simpa using this
      · have := ih y (by simp at h ⊢; exact .inr h); simp; omega
theorem bytes_extS {x y : ByteArray} (h : x.data.toList = y.data.toList) : x = y := ByteArray.ext (Array.ext' h)
theorem piecesS_data (s : ByteArray) : (piecesS s).map (·.data.toList) = cutS s.data.toList := by
  unfold piecesS
  rw [Lib.splitB_data]
  exact splitK_cutS _
theorem piecesS_all (s : List UInt8) : piecesS (strL s) = (cutS s).map strL ∧ (cutS s).length = Lib.countB (strL s) ⟨#[32]⟩ + 1 := by
  have h1 := piecesS_data (strL s)
  have h2 : piecesS (strL s) = (cutS s).map strL := by
    have h3 := congrArg (List.map strL) h1
    rw [List.map_map] at h3
    have h4 : ∀ l : List ByteArray, l.map (strL ∘ fun x => x.data.toList) = l := fun l => by
      induction l with
      | nil => rfl
      | cons x l ih => rw [List.map_cons, ih]; rfl
    rw [h4] at h3
    exact h3
  refine ⟨h2, ?_⟩
  have h5 := (Lib.splitB_all ⟨#[32]⟩ (by decide) 0 _ (strL s) rfl)
  have h6 := congrArg List.length h2
  rw [List.length_map] at h6
  rw [← h6]
  exact h5
section
variable {P : Program} {f : FR} {R : Ending → World → Prop} {n : Nat} {w0 : World} {L : List Nat} {β : List Nat} {m : SM}
/-- A call that makes a block, known whole. -/
theorem Hs.callNB {F : FuncId} {args : Array Value} (T : TypeId) (vs : List Value) (res : SV) (hC : ∀ w, Mem w0 L β m.hp w → Calls P F args w fun e w' => ∃ b, e = .returned (res.den (β ++ [b])) ∧ Only [] w w' ∧ w.heap.size ≤ b ∧ Blk w' b T vs) (hc : callOf P n β m = some (F, args)) (hw : res.wf (m.hp.length + 1) = true) (hrd : (rdOf m).all (fun k => Nat.blt k m.hp.length) = true)
    (h : ∀ b, Hs P f R n w0 L (β ++ [b]) (m.put (dstOf m) res (m.hp ++ [.r true T vs]))) : Hs P f R n w0 L β m := by
  refine ⟨fun w H W => ?_⟩
  refine (Hs.call hc (fun w H => ?_)).go w H W
  refine Calls.mono (hC w H) ?_
  rintro e w' ⟨b, rfl, O, hb, hB⟩
  refine ⟨[b], res, m.hp ++ [.r true T vs], rfl, ?_, ?_, fun k hk x hx => ?_, h b⟩
  · refine H.push (h := .r true T vs) (by rw [H.len]; exact SM.wf_hp W) O (fun y hy => ?_) hB
    injection hy with hy; omega
  · simp only [List.length_append, List.length_cons, List.length_nil, Nat.zero_add, Bool.and_eq_true, Nat.ble_eq, List.all_append, List.all_cons, List.all_nil, Bool.and_true]
    refine ⟨hw, by omega, List.all_eq_true.2 fun y hy => ?_, rfl⟩
    have := List.all_eq_true.1 (SM.wf_hp W) y hy
    cases y with
    | b _ _ c => exact List.all_eq_true.2 fun z hz => SC.wf_mono (Nat.le_succ _) (List.all_eq_true.1 this z hz)
    | _ => rfl
  · have := List.all_eq_true.1 hrd k hk
    rw [List.getElem?_append_left (blt_spec.1 this)]
    exact hx
end
theorem split_any19 (s : List UInt8) (hs : s.length < 4294967281) (w : World) (hS : SLib w) : Calls Tryz.prog 57 #[.string (strL s), .string (strL [32])] w fun e w' => e = .returned (.slice (some ⟨w.heap.size, 0, none⟩) (cutS s).length (cutS s).length) ∧ w' = w.alloc (.cells ((cutS s).map fun x => Value.string (strL x)).toArray 9) := by
  obtain ⟨m, hm⟩ := hS.max
  obtain ⟨h1, h2⟩ := piecesS_all s
  refine (Tryz.strings_Split (strL s) (strL [32]) m w hs hm (by decide)).mono ?_
  rintro e w' ⟨rfl, rfl⟩
  have e1 : Lib.splitB (strL [32]) 0 (Lib.countB (strL s) (strL [32])) (strL s) = (cutS s).map strL := h1
  rw [e1, List.map_map]
  have e2 : Lib.countB (strL s) (strL [32]) + 1 = (cutS s).length := h2.symm
  rw [e2]
  exact ⟨rfl, rfl⟩
end Go.Proofs.YtmmcamkmglpgiaaGreatDoor

namespace Go.Proofs.YtmmcamkmglpgiaaGreatDoor
open Go.RowKit
set_option linter.all false
set_option maxRecDepth 100000
theorem wrap_nextK {i : Nat} (h : i < 9223372036854775807) : Value.int .i64 (IntKind.i64.wrap ((i : Int) + 1)) = (SV.c (.v (.int .i64 (i + 1 : Nat)))).den [] := by
  rw [IntWalk.i64_in _ (by omega)]; rfl
abbrev SoR := List UInt8 × Int × Value
def fn9 (f : FuncId) : Value := .func (.func f) #[] #[]
/-- The kinds: word, shape, what is asked. -/
def sortRows : List SoR := [([], 0, .nilFunc),
  ([101, 120, 105, 116], 1, fn9 65),
  ([111, 117, 116], 3, fn9 66),
  ([101, 114, 114], 3, fn9 66),
  ([105, 110], 1, fn9 67),
  ([102, 111, 114, 107], 1, fn9 68),
  ([101, 120, 101, 99], 1, fn9 68),
  ([119, 97, 105, 116], 1, fn9 69),
  ([107, 105, 108, 108], 2, fn9 70),
  ([103, 114, 111, 117, 112], 1, fn9 71),
  ([115, 101, 115, 115, 105, 111, 110], 0, fn9 72),
  ([102, 114, 111, 110, 116], 1, fn9 73),
  ([97, 99, 116], 2, fn9 74),
  ([109, 97, 115, 107], 2, fn9 75),
  ([115, 108, 101, 101, 112], 1, fn9 76),
  ([109, 111, 100, 101], 2, fn9 77),
  ([99, 111, 112, 121], 0, fn9 72)]
def cS (r : SoR) : List Value := [.string (strL r.1), .int .i64 r.2.1, r.2.2]
def SoR.sc (r : SoR) : List SC := [.v (.string (strL r.1)), .v (.int .i64 r.2.1), .v r.2.2]
theorem cS_len (r : SoR) : (cS r).length = 3 := rfl
def sortC : List Value := sortRows.flatMap cS
theorem sorts_any (w : World) : Calls Tryz.prog 43 #[] w fun e w' => e = .returned (.agg sortC.toArray) ∧ Only [] w w' := by
  refine Hs.enter Tryz.func43 [] [] [] [] (Mem.start0 w) (by kernel_rfl) (by kernel_rfl) ?_
  refine Hs.run1 300 (fun _ => by kernel_rfl) fun b0 => ?_
  exact Hs.ret (v := .agg sortC.toArray) Tryz.func43 (by kernel_rfl) fun w' H => ⟨rfl, H.only⟩
theorem op1_any (r : SoR) (x : List UInt8) (rest : List Value) (n c a : Nat) (hn : n = rest.length + 1) (hca : c ≠ a) (w : World) (hc : Blk w c 110 [.slice (some ⟨a, 0, none⟩) n n]) (ha : Blk w a 9 (.string (strL x) :: rest)) : Calls Tryz.prog 59 #[.agg (cS r).toArray, .pointer (some ⟨c, 0, none⟩)] w fun e w' => e = .returned (.bool (r.1 == x)) ∧ Only [] w w' := by
  subst hn
  have H0 : Mem w [] [c, a] [.b false 110 [.s 1 0 (rest.length + 1) (rest.length + 1)], .r false 9 (.string (strL x) :: rest)] w := Mem.startW [] rfl (by simp [bks, HB.blk, hca]) ⟨hc, ha, trivial⟩ (fun y hy => by simp [wrN, HB.wr] at hy)
  refine Hs.enter Tryz.func59 [] [c, a] _ [.g r.sc, .c (.p 0 0)] H0 (by kernel_rfl) (by kernel_rfl) ?_
  refine Hs.run1 300 (fun _ => by kernel_rfl) fun b2 => ?_
  refine Hs.any [0, 1, 2] (by kernel_rfl) ?_
  refine Hs.run0 300 (fun _ => by kernel_rfl) ?_
  refine Hs.slot 3 (.c (.v (.bool (r.1 == x)))) rfl ((by kernel_rfl : _ = Value.bool ((strL r.1).toList == (strL x).toList)).trans (by rw [str_cmp]; rfl)) ?_
  exact Hs.ret (v := .bool (r.1 == x)) Tryz.func59 (by kernel_rfl) fun w' H => ⟨rfl, H.only⟩
theorem elemSo : ElemT Tryz.prog 113 100 3 (Tryz.prog.bytesOf 100) := elemT_of (z := .agg #[.string ⟨#[]⟩, .int .i64 0, .nilFunc]) (by kernel_rfl) (by kernel_rfl) (by decide) (by decide)
/-- The first row of a word, from some on. -/
def ixF (x : List UInt8) : List SoR → Nat → Int
  | [], _ => -1
  | r :: l, i => match r.1 == x with
    | true => (i : Int)
    | false => ixF x l (i + 1)
def ixI (x : List UInt8) : Int := ixF x sortRows 0
set_option maxHeartbeats 1000000 in
theorem ixSort_any (x : List UInt8) (rest : List Value) (n c a b : Nat) (hn : n = rest.length + 1) (hca : c ≠ a) (w : World) (hc : Blk w c 110 [.slice (some ⟨a, 0, none⟩) n n]) (ha : Blk w a 9 (.string (strL x) :: rest)) (hb : Blk w b 101 sortC) : Calls Tryz.prog 58 #[.slice (some ⟨b, 0, none⟩) 17 17, .func (.func 59) #[] #[.pointer (some ⟨c, 0, none⟩)]] w fun e w' => e = .returned (.int .i64 (ixI x)) ∧ Only [] w w' := by
  have hrd : RdX cS w (some ⟨b, 0, none⟩) sortRows := fun _ => ⟨b, 0, rfl, hb.lt, fun j v hv => (hb.cell (0 + j)).trans (by rw [Nat.zero_add]; exact hv)⟩
  have J : ∀ (d i : Nat), 17 - i = d → i ≤ 17 → ixF x (sortRows.drop i) i = ixI x → ∀ (u : Nat → Value), Hs Tryz.prog 58 (fun e w' => e = .returned (.int .i64 (ixI x)) ∧ Only [] w w') (Tryz.f58).ntmps w [] [] ⟨.no, loopAt Tryz.f58 0, pins [(0, .c (.v (.slice (some ⟨b, 0, none⟩) 17 17))), (1, .c (.v (.func (.func 59) #[] #[.pointer (some ⟨c, 0, none⟩)]))), (4, .c (.v (.int .i64 0))), (7, .c (.v (.int .i64 17))), (8, .c (.v (.int .i64 i)))] (.vals u), []⟩ := by
    intro d
    induction d with
    | zero =>
      intro i hd hi hix u
      obtain rfl : i = 17 := by omega
      have e : ixI x = -1 := hix.symm
      refine Hs.run0 300 (fun _ => by kernel_rfl) ?_
      refine Hs.condF (by kernel_rfl) ?_
      refine Hs.run0 300 (fun _ => by kernel_rfl) ?_
      exact Hs.ret (v := .int .i64 (-1)) Tryz.func58 (by kernel_rfl) fun w' H => ⟨by rw [e], H.only⟩
    | succ d ih =>
      intro i hd hi hix u
      have hil : i < sortRows.length := by show i < 17; omega
      obtain ⟨r, hr⟩ : ∃ r, sortRows[i]? = some r := ⟨_, List.getElem?_eq_getElem hil⟩
      have hdr : sortRows.drop i = r :: sortRows.drop (i + 1) := by
        rw [List.drop_eq_getElem_cons hil]
        rw [List.getElem?_eq_getElem hil] at hr
        injection hr with hr
        rw [hr]
      rw [hdr] at hix
      unfold ixF at hix
      refine Hs.run0 300 (fun _ => by kernel_rfl) ?_
      refine Hs.condP ((i : Int) < (17 : Int)) (by kernel_rfl) (fun _ => ?_) (fun h => by omega)
      refine Hs.run0 300 (fun _ => by kernel_rfl) ?_
      refine Hs.idx (b := b) (off := 0) (len := 17) (c := 17) (i := i) elemSo (by omega) (by kernel_rfl) ?_
      refine Hs.ldx (cf := cS) (size := 3) (E := 100) (b := b) (off := 0) (i := i) (l := sortRows) (x := r) cS_len (.g r.sc) (by kernel_rfl) (fun w' H => hrd.only H.only) hr (by kernel_rfl) (by kernel_rfl) rfl (by kernel_rfl) ?_
      refine Hs.callV (v := .bool (r.1 == x)) (fun w' H => op1_any r x rest n c a hn hca w' (hc.only H.only (by simp)) (ha.only H.only (by simp))) (by kernel_rfl) ?_
      refine Hs.run0 300 (fun _ => by kernel_rfl) ?_
      refine Hs.cond (r.1 == x) (by kernel_rfl) (fun h => ?_) (fun h => ?_)
      · rw [h] at hix
        refine Hs.run0 300 (fun _ => by kernel_rfl) ?_
        exact Hs.ret (v := .int .i64 i) Tryz.func58 (by kernel_rfl) fun w' H => ⟨by rw [← hix], H.only⟩
      · rw [h] at hix
        refine Hs.run0 300 (fun _ => by kernel_rfl) ?_
        refine Hs.slot 8 (.c (.v (.int .i64 (i + 1 : Nat)))) rfl ((by kernel_rfl : _ = Value.int .i64 (IntKind.i64.wrap ((i : Int) + 1))).trans (wrap_nextK (by omega))) ?_
        refine Hs.loop (by kernel_rfl) ?_
        exact Hs.goto (loopAt Tryz.f58 0) [] [] [(0, .c (.v (.slice (some ⟨b, 0, none⟩) 17 17))), (1, .c (.v (.func (.func 59) #[] #[.pointer (some ⟨c, 0, none⟩)]))), (4, .c (.v (.int .i64 0))), (7, .c (.v (.int .i64 17))), (8, .c (.v (.int .i64 (i + 1 : Nat))))] (by kernel_rfl) (by decide) (by kernel_rfl) (by kernel_rfl) (fun _ => (by kernel_rfl)) (fun u => ih (i + 1) (by omega) (by omega) hix u)
  refine Hs.enter Tryz.func58 [] [] [] [.c (.v (.slice (some ⟨b, 0, none⟩) 17 17)), .c (.v (.func (.func 59) #[] #[.pointer (some ⟨c, 0, none⟩)]))] (Mem.start0 w) (by kernel_rfl) (by kernel_rfl) ?_
  refine Hs.run0 300 (fun _ => by kernel_rfl) ?_
  refine Hs.loop (by kernel_rfl) ?_
  exact Hs.goto (loopAt Tryz.f58 0) [] [] [(0, .c (.v (.slice (some ⟨b, 0, none⟩) 17 17))), (1, .c (.v (.func (.func 59) #[] #[.pointer (some ⟨c, 0, none⟩)]))), (4, .c (.v (.int .i64 0))), (7, .c (.v (.int .i64 17))), (8, .c (.v (.int .i64 (0 : Nat))))] (by kernel_rfl) (by decide) (by kernel_rfl) (by kernel_rfl) (fun _ => (by kernel_rfl)) (fun u => J 17 0 rfl (by omega) rfl u)
end Go.Proofs.YtmmcamkmglpgiaaGreatDoor

namespace Go.Proofs.YtmmcamkmglpgiaaGreatDoor
open Go.RowKit
set_option linter.all false
set_option maxRecDepth 100000
section
variable {P : Program} {f : FR} {R : Ending → World → Prop} {n : Nat} {w0 : World} {L : List Nat} {β : List Nat} {m : SM}
def strM (P : Program) (n : Nat) (m : SM) : SM := (strK P n m).getD m
/-- Texts compared, a row indexed, a slice of a whole array. -/
theorem Hs.xk (hs : (strK P n m).isSome = true) (h : Hs P f R n w0 L β (strM P n m)) : Hs P f R n w0 L β m := by
  obtain ⟨m', hm'⟩ := Option.isSome_iff_exists.1 hs
  unfold strM at h
  rw [hm'] at h
  have h : Hs P f R n w0 L β m' := h
  refine ⟨fun w H W => ?_⟩
  obtain ⟨h1, h2, h3⟩ := strK_sound (P := P) (f := f) (R := R) (β := β) hm' H W
  exact h3 (h.go w (by rw [h1]; exact H) h2)
end
def zero9 : OP9 := ⟨0, 0, 0, ⟨#[]⟩⟩
def shK (k : Int) : Int := match sortRows[k.toNat]? with
  | some r => r.2.1
  | none => 0
def opN (k : Int) : List (List UInt8) → Option OP9
  | [] => some ⟨k, 0, 0, ⟨#[]⟩⟩
  | [a] => match numOk a with
    | true => some ⟨k, atoiN a, 0, ⟨#[]⟩⟩
    | false => none
  | a :: b :: _ => match numOk a with
    | true => match numOk b with
      | true => some ⟨k, atoiN a, atoiN b, ⟨#[]⟩⟩
      | false => none
    | false => none
def opT (k : Int) : List (List UInt8) → OP9 × Bool
  | [a] => match readB (a.length + 1) a [] with
    | some o => (⟨k, 0, 0, strL o⟩, true)
    | none => (⟨k, 0, 0, ⟨#[]⟩⟩, false)
  | _ => (zero9, false)
/-- The operation that a line says; false: none. -/
def opW : List (List UInt8) → OP9 × Bool
  | [] => (zero9, false)
  | x :: r => match decide (ixI x < 1) with
    | true => (zero9, false)
    | false => match shK (ixI x) == 3 with
      | true => opT (ixI x) r
      | false => match decide (((r.length + 1 : Nat) : Int) = 1 + shK (ixI x)) with
        | false => (zero9, false)
        | true => match opN (ixI x) r with
          | some o => (o, true)
          | none => (zero9, false)
theorem opW_cons (x : List UInt8) (r : List (List UInt8)) : opW (x :: r) = match decide (ixI x < 1) with
    | true => (zero9, false)
    | false => match shK (ixI x) == 3 with
      | true => opT (ixI x) r
      | false => match decide (((r.length + 1 : Nat) : Int) = 1 + shK (ixI x)) with
        | false => (zero9, false)
        | true => match opN (ixI x) r with
          | some o => (o, true)
          | none => (zero9, false) := rfl
def opB (s : List UInt8) : OP9 × Bool := opW (cutS s)
def opV (o : OP9 × Bool) : Value := .tuple #[.agg (cOP o.1).toArray, .bool o.2]
theorem ixF_lt (x : List UInt8) : ∀ (l : List SoR) (i : Nat), ixF x l i = -1 ∨ ∃ j r, l[j]? = some r ∧ ixF x l i = ((i + j : Nat) : Int)
  | [], i => .inl rfl
  | r :: l, i => by
    unfold ixF
    cases r.1 == x with
    | true => exact .inr ⟨0, r, rfl, rfl⟩
    | false =>
      rcases ixF_lt x l (i + 1) with h | ⟨j, q, h1, h2⟩
      · exact .inl h
      · exact .inr ⟨j + 1, q, h1, by dsimp only; rw [h2]; congr 1; omega⟩
theorem ix_row {x : List UInt8} (h : ¬ ixI x < 1) : ∃ (k : Nat) (r : SoR), ixI x = (k : Int) ∧ 1 ≤ k ∧ k < 17 ∧ sortRows[k]? = some r ∧ shK (ixI x) = r.2.1 := by
  rcases ixF_lt x sortRows 0 with h1 | ⟨j, r, h1, h2⟩
  · exact absurd (show ixI x < 1 by show ixF x sortRows 0 < 1; rw [h1]; decide) h
  · rw [Nat.zero_add] at h2
    have h3 : ixI x = (j : Int) := h2
    have h4 := (List.getElem?_eq_some_iff.1 h1).1
    refine ⟨j, r, h3, by omega, h4, h1, ?_⟩
    unfold shK
    rw [h3, Int.toNat_natCast, h1]
theorem sh_cases {k : Nat} {r : SoR} (h : sortRows[k]? = some r) : r.2.1 = 0 ∨ r.2.1 = 1 ∨ r.2.1 = 2 ∨ r.2.1 = 3 := by
  have hm := List.mem_of_getElem? h
  unfold sortRows at hm
  simp only [List.mem_cons, List.not_mem_nil, or_false] at hm
  rcases hm with rfl | rfl | rfl | rfl | rfl | rfl | rfl | rfl | rfl | rfl | rfl | rfl | rfl | rfl | rfl | rfl | rfl <;> simp
theorem flat3 : ∀ (l : List SoR) (k : Nat) (r : SoR), l[k]? = some r → (l.flatMap cS)[k * 3 + 1]? = some (.int .i64 r.2.1)
  | [], k, r, h => by simp at h
  | x :: l, 0, r, h => by simp at h; subst h; rfl
  | x :: l, k + 1, r, h => by
    have := flat3 l k r (by simpa using h)
    rw [List.flatMap_cons, List.getElem?_append_right (by rw [cS_len]; omega), cS_len]
    rw [← this]
    congr 1
    omega
theorem sortC_get {k : Nat} {r : SoR} (h : sortRows[k]? = some r) : sortC[k * 3 + 1]? = some (.int .i64 r.2.1) := flat3 _ k r h
set_option maxHeartbeats 4000000 in
theorem op_any19 (s : List UInt8) (hs : s.length ≤ 1000000) (w : World) (hS : SLib w) : Calls Tryz.prog 37 #[.string (strL s)] w fun e w' => e = .returned (opV (opB s)) ∧ Only [] w w' := by
  obtain ⟨x, rest, hcut⟩ := cutS_ne s
  have hlen : ∀ y ∈ cutS s, y.length ≤ s.length := cutS_len s
  have hB : opB s = opW (x :: rest) := by unfold opB; rw [hcut]
  rw [hB]
  have hsp := fun w hS => split_any19 s (by omega) w hS
  rw [hcut] at hsp hlen
  clear hB
  refine Hs.enter Tryz.func37 [] [] [] [.c (.v (.string (strL s)))] (Mem.start0 w) (by kernel_rfl) (by kernel_rfl) ?_
  refine Hs.run1 300 (fun _ => by kernel_rfl) fun b0 => ?_
  refine Hs.callNB 9 (.string (strL x) :: rest.map fun x => .string (strL x)) (.c (.s 1 0 (rest.length + 1) (rest.length + 1))) (fun w' H => (hsp w' (hS.only H.only)).mono ?_) (by kernel_rfl) (by kernel_rfl) (by kernel_rfl) fun b1 => ?_
  · rintro e w2 ⟨rfl, rfl⟩
    exact ⟨w'.heap.size, rfl, (Only.refl [] w').alloc _, Nat.le_refl _, Blk.new w' _ _⟩
  refine Hs.run1 300 (fun _ => by kernel_rfl) fun b2 => ?_
  refine Hs.callV (v := .agg sortC.toArray) (fun w' H => sorts_any w') (by kernel_rfl) ?_
  refine Hs.run1 300 (fun _ => by kernel_rfl) fun b3 => ?_
  refine Hs.xk (by kernel_rfl) ?_
  refine Hs.run0 300 (fun _ => by kernel_rfl) ?_
  have hix : ∀ w', Mem w [] ([] ++ [b0] ++ [b1] ++ [b2] ++ [b3]) [.b true 36 [.v (.int .i64 0), .v (.int .i64 0), .v (.int .i64 0), .v (.string ⟨#[]⟩)], .r true 9 (.string (strL x) :: rest.map fun x => .string (strL x)), .b true 110 [.s 1 0 (rest.length + 1) (rest.length + 1)], .b true 101 (sortC.map .v)] w' → Calls Tryz.prog 58 #[.slice (some ⟨b3, 0, none⟩) 17 17, .func (.func 59) #[] #[.pointer (some ⟨b2, 0, none⟩)]] w' fun e w2 => e = .returned (.int .i64 (ixI x)) ∧ Only [] w' w2 := fun w' H => by
    have h2 : b2 ≠ b1 := fun e => by
      have := H.inj 2 1 _ _ b1 rfl rfl (by show some b2 = some b1; rw [e]) rfl
      cases this
    refine ixSort_any x (rest.map fun x => .string (strL x)) (rest.length + 1) b2 b1 b3 (by rw [List.length_map]) h2 w' (H.at 2 rfl) (H.lies 1 _ rfl) ?_
    have := H.at 3 rfl
    rw [dens_v] at this
    exact this
  refine Hs.callV (v := .int .i64 (ixI x)) (fun w' H => hix w' H) (by kernel_rfl) ?_
  clear hix
  refine Hs.run0 300 (fun _ => by kernel_rfl) ?_
  refine Hs.condP (ixI x < 1) (by kernel_rfl) (fun h => ?_) (fun h => ?_)
  · refine Hs.run0 300 (fun _ => by kernel_rfl) ?_
    have e : opW (x :: rest) = (zero9, false) := by rw [opW_cons, decide_eq_true h]
    exact Hs.ret (v := opV (zero9, false)) Tryz.func37 (by kernel_rfl) fun w' H => ⟨by rw [e], H.only⟩
  obtain ⟨k, r, hk, hk1, hk2, hr, hsh⟩ := ix_row h
  have hop : opW (x :: rest) = match r.2.1 == 3 with
      | true => opT k rest
      | false => match decide (((rest.length + 1 : Nat) : Int) = 1 + r.2.1) with
        | false => (zero9, false)
        | true => match opN k rest with
          | some o => (o, true)
          | none => (zero9, false) := by
    rw [opW_cons, decide_eq_false h, hsh, hk]
  rw [hop]
  clear hop hsh
  rw [hk]
  clear hk h hcut hsp
  have ha : arrOff Tryz.prog 101 (.c (.v (.int .i64 (k : Int)))) = some (k * 3) := by
    have hu : Tryz.prog.underlying 101 = some (.array 17 100) := by kernel_rfl
    have hz : szB Tryz.prog 100 = some 3 := by kernel_rfl
    unfold arrOff
    rw [hu]
    show (match Nat.blt k 17 with
      | true => (match szB Tryz.prog 100 with
        | some n => some (k * n)
        | none => none)
      | false => none) = some (k * 3)
    rw [blt_spec.2 hk2, hz]
  refine Hs.runR1 7 [] 300 (fun _ => by kernel_rfl) fun b4 => ?_
  refine Hs.run0 2 (fun _ => by kernel_rfl) ?_
  refine Hs.opV (.c (.v (.pointer (some ⟨b3, 0 + k * 3, none⟩)))) (s := Instr.indexAt 101 (.pointer (some ⟨b3, 0, none⟩)) (.int .i64 (k : Int))) (by kernel_rfl) rfl (fun w' _ => run_arrOff (i := .c (.v (.int .i64 (k : Int)))) (β := []) ha w') ?_
  refine Hs.run0 300 (fun _ => by kernel_rfl) ?_
  have hcell : ∀ w' : World, Blk w' b3 101 (dens ([] ++ [b0] ++ [b1] ++ [b2] ++ [b3] ++ [b4]) (sortC.map .v)) → w'.cell? ⟨b3, 0 + k * 3 + 1, none⟩ = some (.int .i64 r.2.1) := fun w' hb => by
    rw [dens_v] at hb
    rw [hb.cell]
    have h := sortC_get hr
    rw [Nat.zero_add]
    exact h
  refine Hs.ldc (E' := 97) (b := b3) (off := 0 + k * 3 + 1) (.int .i64 r.2.1) (by kernel_rfl) (fun w' H => hcell w' (H.at (wr := true) (T := 101) (cs := sortC.map .v) 3 (by kernel_rfl))) (by kernel_rfl) ?_
  clear hcell ha
  have hsc := sh_cases hr
  clear hr
  obtain ⟨rw1, rsh, rf⟩ := r
  dsimp only at hsc ⊢
  rcases hsc with rfl | rfl | rfl | rfl
  · refine Hs.run0 300 (fun _ => by kernel_rfl) ?_
    refine Hs.condF (by kernel_rfl) ?_
    refine Hs.run0 300 (fun _ => by kernel_rfl) ?_
    refine Hs.cond (!decide (((rest.length + 1 : Nat) : Int) = 1 + 0)) (by kernel_rfl) (fun h => ?_) (fun h => ?_)
    · have hres : (match (0 : Int) == 3 with
        | true => opT k rest
        | false => match decide (((rest.length + 1 : Nat) : Int) = 1 + 0) with
          | false => (zero9, false)
          | true => match opN k rest with
            | some o => (o, true)
            | none => (zero9, false)) = (zero9, false) := by
        show (match decide (((rest.length + 1 : Nat) : Int) = 1 + 0) with | false => (zero9, false) | true => _) = _
        rw [show decide (((rest.length + 1 : Nat) : Int) = 1 + 0) = false by simpa using h]
      refine Hs.run0 300 (fun _ => by kernel_rfl) ?_
      exact Hs.ret (v := opV (zero9, false)) Tryz.func37 (by kernel_rfl) fun w' H => ⟨by rw [hres], H.only⟩
    have hrest : rest = [] := by
      cases rest with
      | nil => rfl
      | cons y r => simp at h; omega
    subst hrest
    refine Hs.run1 300 (fun _ => by kernel_rfl) fun b5 => ?_
    refine Hs.opV (.c (.s 5 0 0 2)) (s := Instr.sliceAt 116 (.slice (some ⟨b5, 0, none⟩) 2 2) none (some (.int .i64 0)) none) (by kernel_rfl) (by kernel_rfl) (fun w' _ => by kernel_rfl) ?_
    refine Hs.run0 300 (fun _ => by kernel_rfl) ?_
    refine Hs.loop (by kernel_rfl) ?_
    refine Hs.run0 300 (fun _ => by kernel_rfl) ?_
    refine Hs.condF (by kernel_rfl) ?_
    refine Hs.run0 300 (fun _ => by kernel_rfl) ?_
    exact Hs.ret (v := opV (⟨k, 0, 0, ⟨#[]⟩⟩, true)) Tryz.func37 (by kernel_rfl) fun w' H => ⟨rfl, H.only⟩
  · refine Hs.run0 300 (fun _ => by kernel_rfl) ?_
    refine Hs.condF (by kernel_rfl) ?_
    refine Hs.run0 300 (fun _ => by kernel_rfl) ?_
    refine Hs.cond (!decide (((rest.length + 1 : Nat) : Int) = 1 + 1)) (by kernel_rfl) (fun h => ?_) (fun h => ?_)
    · have hres : (match (1 : Int) == 3 with
        | true => opT k rest
        | false => match decide (((rest.length + 1 : Nat) : Int) = 1 + 1) with
          | false => (zero9, false)
          | true => match opN k rest with
            | some o => (o, true)
            | none => (zero9, false)) = (zero9, false) := by
        show (match decide (((rest.length + 1 : Nat) : Int) = 1 + 1) with | false => (zero9, false) | true => _) = _
        rw [show decide (((rest.length + 1 : Nat) : Int) = 1 + 1) = false by simpa using h]
      refine Hs.run0 300 (fun _ => by kernel_rfl) ?_
      exact Hs.ret (v := opV (zero9, false)) Tryz.func37 (by kernel_rfl) fun w' H => ⟨by rw [hres], H.only⟩
    have hrest : ∃ y, rest = [y] := by
      cases rest with
      | nil => simp at h
      | cons y r => cases r with
        | nil => exact ⟨y, rfl⟩
        | cons z r => simp at h; omega
    obtain ⟨y, rfl⟩ := hrest
    have hy := hlen y (by simp)
    refine Hs.run1 300 (fun _ => by kernel_rfl) fun b5 => ?_
    refine Hs.reb (T := 117) (cs := [.v (.pointer (some ⟨b4, 1, none⟩)), .v (.pointer (some ⟨b4, 2, none⟩))]) 5 [.p 4 1, .p 4 2] (by kernel_rfl) (by kernel_rfl) (by kernel_rfl) (by kernel_rfl) ?_
    refine Hs.opV (.c (.s 5 0 1 2)) (s := Instr.sliceAt 116 (.slice (some ⟨b5, 0, none⟩) 2 2) none (some (.int .i64 1)) none) (by kernel_rfl) (by kernel_rfl) (fun w' _ => by kernel_rfl) ?_
    refine Hs.run0 300 (fun _ => by kernel_rfl) ?_
    refine Hs.loop (by kernel_rfl) ?_
    refine Hs.run0 300 (fun _ => by kernel_rfl) ?_
    refine Hs.condT (by kernel_rfl) ?_
    refine Hs.run0 300 (fun _ => by kernel_rfl) ?_
    refine Hs.callV (v := .tuple #[.int .i64 (atoiN y), .bool (numOk y)]) (fun w' H => number_any19 y (by omega) w' (hS.only H.only)) (by kernel_rfl) ?_
    refine Hs.run0 300 (fun _ => by kernel_rfl) ?_
    refine Hs.cond (!numOk y) (by kernel_rfl) (fun h1 => ?_) (fun h1 => ?_)
    · have h1 : numOk y = false := by simpa using h1
      refine Hs.run0 300 (fun _ => by kernel_rfl) ?_
      exact Hs.ret (v := opV (zero9, false)) Tryz.func37 (by kernel_rfl) fun w' H => ⟨by
        show _ = Ending.returned (opV (match (match numOk y with | true => some (⟨k, atoiN y, 0, ⟨#[]⟩⟩ : OP9) | false => none) with | some o => (o, true) | none => (zero9, false)))
        rw [h1], H.only⟩
    have h1 : numOk y = true := by simpa using h1
    refine Hs.run0 300 (fun _ => by kernel_rfl) ?_
    refine Hs.loop (by kernel_rfl) ?_
    refine Hs.run0 300 (fun _ => by kernel_rfl) ?_
    refine Hs.condF (by kernel_rfl) ?_
    refine Hs.run0 300 (fun _ => by kernel_rfl) ?_
    exact Hs.ret (v := opV (⟨k, atoiN y, 0, ⟨#[]⟩⟩, true)) Tryz.func37 (by kernel_rfl) fun w' H => ⟨by
      show _ = Ending.returned (opV (match (match numOk y with | true => some (⟨k, atoiN y, 0, ⟨#[]⟩⟩ : OP9) | false => none) with | some o => (o, true) | none => (zero9, false)))
      rw [h1], H.only⟩
  · refine Hs.run0 300 (fun _ => by kernel_rfl) ?_
    refine Hs.condF (by kernel_rfl) ?_
    refine Hs.run0 300 (fun _ => by kernel_rfl) ?_
    refine Hs.cond (!decide (((rest.length + 1 : Nat) : Int) = 1 + 2)) (by kernel_rfl) (fun h => ?_) (fun h => ?_)
    · have hres : (match (2 : Int) == 3 with
        | true => opT k rest
        | false => match decide (((rest.length + 1 : Nat) : Int) = 1 + 2) with
          | false => (zero9, false)
          | true => match opN k rest with
            | some o => (o, true)
            | none => (zero9, false)) = (zero9, false) := by
        show (match decide (((rest.length + 1 : Nat) : Int) = 1 + 2) with | false => (zero9, false) | true => _) = _
        rw [show decide (((rest.length + 1 : Nat) : Int) = 1 + 2) = false by simpa using h]
      refine Hs.run0 300 (fun _ => by kernel_rfl) ?_
      exact Hs.ret (v := opV (zero9, false)) Tryz.func37 (by kernel_rfl) fun w' H => ⟨by rw [hres], H.only⟩
    have hrest : ∃ y z, rest = [y, z] := by
      cases rest with
      | nil => simp at h
      | cons y r => cases r with
        | nil => simp at h
        | cons z r => cases r with
          | nil => exact ⟨y, z, rfl⟩
          | cons u r => simp at h; omega
    obtain ⟨y, z, rfl⟩ := hrest
    have hy := hlen y (by simp)
    have hz := hlen z (by simp)
    refine Hs.run1 300 (fun _ => by kernel_rfl) fun b5 => ?_
    refine Hs.reb (T := 117) (cs := [.v (.pointer (some ⟨b4, 1, none⟩)), .v (.pointer (some ⟨b4, 2, none⟩))]) 5 [.p 4 1, .p 4 2] (by kernel_rfl) (by kernel_rfl) (by kernel_rfl) (by kernel_rfl) ?_
    refine Hs.opV (.c (.s 5 0 2 2)) (s := Instr.sliceAt 116 (.slice (some ⟨b5, 0, none⟩) 2 2) none (some (.int .i64 2)) none) (by kernel_rfl) (by kernel_rfl) (fun w' _ => by kernel_rfl) ?_
    refine Hs.run0 300 (fun _ => by kernel_rfl) ?_
    refine Hs.loop (by kernel_rfl) ?_
    refine Hs.run0 300 (fun _ => by kernel_rfl) ?_
    refine Hs.condT (by kernel_rfl) ?_
    refine Hs.run0 300 (fun _ => by kernel_rfl) ?_
    refine Hs.callV (v := .tuple #[.int .i64 (atoiN y), .bool (numOk y)]) (fun w' H => number_any19 y (by omega) w' (hS.only H.only)) (by kernel_rfl) ?_
    refine Hs.run0 300 (fun _ => by kernel_rfl) ?_
    refine Hs.cond (!numOk y) (by kernel_rfl) (fun h1 => ?_) (fun h1 => ?_)
    · have h1 : numOk y = false := by simpa using h1
      refine Hs.run0 300 (fun _ => by kernel_rfl) ?_
      exact Hs.ret (v := opV (zero9, false)) Tryz.func37 (by kernel_rfl) fun w' H => ⟨by
        show _ = Ending.returned (opV (match (match numOk y with | true => (match numOk z with | true => some (⟨k, atoiN y, atoiN z, ⟨#[]⟩⟩ : OP9) | false => none) | false => none) with | some o => (o, true) | none => (zero9, false)))
        rw [h1], H.only⟩
    have h1 : numOk y = true := by simpa using h1
    refine Hs.run0 300 (fun _ => by kernel_rfl) ?_
    refine Hs.loop (by kernel_rfl) ?_
    refine Hs.run0 300 (fun _ => by kernel_rfl) ?_
    refine Hs.condT (by kernel_rfl) ?_
    refine Hs.run0 300 (fun _ => by kernel_rfl) ?_
    refine Hs.callV (v := .tuple #[.int .i64 (atoiN z), .bool (numOk z)]) (fun w' H => number_any19 z (by omega) w' (hS.only H.only)) (by kernel_rfl) ?_
    refine Hs.run0 300 (fun _ => by kernel_rfl) ?_
    refine Hs.cond (!numOk z) (by kernel_rfl) (fun h2 => ?_) (fun h2 => ?_)
    · have h2 : numOk z = false := by simpa using h2
      refine Hs.run0 300 (fun _ => by kernel_rfl) ?_
      exact Hs.ret (v := opV (zero9, false)) Tryz.func37 (by kernel_rfl) fun w' H => ⟨by
        show _ = Ending.returned (opV (match (match numOk y with | true => (match numOk z with | true => some (⟨k, atoiN y, atoiN z, ⟨#[]⟩⟩ : OP9) | false => none) | false => none) with | some o => (o, true) | none => (zero9, false)))
        rw [h1, h2], H.only⟩
    have h2 : numOk z = true := by simpa using h2
    refine Hs.run0 300 (fun _ => by kernel_rfl) ?_
    refine Hs.loop (by kernel_rfl) ?_
    refine Hs.run0 300 (fun _ => by kernel_rfl) ?_
    refine Hs.condF (by kernel_rfl) ?_
    refine Hs.run0 300 (fun _ => by kernel_rfl) ?_
    exact Hs.ret (v := opV (⟨k, atoiN y, atoiN z, ⟨#[]⟩⟩, true)) Tryz.func37 (by kernel_rfl) fun w' H => ⟨by
      show _ = Ending.returned (opV (match (match numOk y with | true => (match numOk z with | true => some (⟨k, atoiN y, atoiN z, ⟨#[]⟩⟩ : OP9) | false => none) | false => none) with | some o => (o, true) | none => (zero9, false)))
      rw [h1, h2], H.only⟩
  · refine Hs.run0 300 (fun _ => by kernel_rfl) ?_
    refine Hs.condT (by kernel_rfl) ?_
    refine Hs.run0 300 (fun _ => by kernel_rfl) ?_
    refine Hs.cond (!decide (((rest.length + 1 : Nat) : Int) = 2)) (by kernel_rfl) (fun h => ?_) (fun h => ?_)
    · have hres : opT k rest = (zero9, false) := by
        cases rest with
        | nil => rfl
        | cons y r => cases r with
          | nil => simp at h
          | cons z r => rfl
      refine Hs.run0 300 (fun _ => by kernel_rfl) ?_
      exact Hs.ret (v := opV (zero9, false)) Tryz.func37 (by kernel_rfl) fun w' H => ⟨by
        show _ = Ending.returned (opV (opT k rest))
        rw [hres], H.only⟩
    have hrest : ∃ y, rest = [y] := by
      cases rest with
      | nil => simp at h
      | cons y r => cases r with
        | nil => exact ⟨y, rfl⟩
        | cons z r => simp at h; omega
    obtain ⟨y, rfl⟩ := hrest
    have hy := hlen y (by simp)
    refine Hs.run0 300 (fun _ => by kernel_rfl) ?_
    have hrd := fun w' => read_any19 y (by omega) w'
    unfold readR at hrd
    cases hR : readB (y.length + 1) y [] with
    | none =>
      rw [hR] at hrd
      refine Hs.callV (v := .tuple #[.string ⟨#[]⟩, .bool false]) (fun w' H => hrd w') (by kernel_rfl) ?_
      refine Hs.run0 300 (fun _ => by kernel_rfl) ?_
      exact Hs.ret (v := opV (⟨k, 0, 0, ⟨#[]⟩⟩, false)) Tryz.func37 (by kernel_rfl) fun w' H => ⟨by
        show _ = Ending.returned (opV (match readB (y.length + 1) y [] with | some o => (⟨k, 0, 0, strL o⟩, true) | none => (⟨k, 0, 0, ⟨#[]⟩⟩, false)))
        rw [hR], H.only⟩
    | some o =>
      rw [hR] at hrd
      refine Hs.callV (v := .tuple #[.string (strL o), .bool true]) (fun w' H => hrd w') (by kernel_rfl) ?_
      refine Hs.run0 300 (fun _ => by kernel_rfl) ?_
      exact Hs.ret (v := opV (⟨k, 0, 0, strL o⟩, true)) Tryz.func37 (by kernel_rfl) fun w' H => ⟨by
        show _ = Ending.returned (opV (match readB (y.length + 1) y [] with | some o => (⟨k, 0, 0, strL o⟩, true) | none => (⟨k, 0, 0, ⟨#[]⟩⟩, false)))
        rw [hR], H.only⟩
end Go.Proofs.YtmmcamkmglpgiaaGreatDoor

namespace Go.Proofs.YtmmcamkmglpgiaaGreatDoor
set_option linter.all false
set_option maxRecDepth 100000
open Go.RowKit

section
variable {P : Program} {f : FR} {R : Ending → World → Prop} {n : Nat} {β : List Nat} {m : SM} {w0 : World} {L : List Nat}
/-- The way on from a state that several ways come to. -/
theorem Hs.share0 {S : SM} {β' : List Nat} (h1 : Hs P f R n w0 L β' S → Hs P f R n w0 L β m) (h2 : Hs P f R n w0 L β' S) : Hs P f R n w0 L β m := h1 h2
theorem Hs.share1 {S : Nat → SM} {β' : List Nat} (h1 : (∀ b, Hs P f R n w0 L (β' ++ [b]) (S b)) → Hs P f R n w0 L β m) (h2 : ∀ b, Hs P f R n w0 L (β' ++ [b]) (S b)) : Hs P f R n w0 L β m := h1 h2
def keyM (n : Nat) (m : SM) : RM × List Item × List HB × List SV × List Deferred := ⟨m.r, m.todo, m.hp, (List.range n).map m.sl.at, m.sl.ds⟩
/-- A state that another state is, but for the order in which its slots were written. -/
theorem Hs.eqM {m' : SM} (k : Hs P f R n w0 L β m') (h : keyM n m = keyM n m') (hw : m'.sl.wf m'.hp.length = true) : Hs P f R n w0 L β m := by
  obtain ⟨r, td, sl, hp⟩ := m
  obtain ⟨r', td', sl', hp'⟩ := m'
  simp only [keyM, Prod.mk.injEq] at h
  obtain ⟨rfl, rfl, rfl, hs, hd⟩ := h
  have e : fr n β sl = fr n β sl' := by
    unfold fr
    rw [hd]
    congr 2
    refine List.map_congr_left fun i hi => ?_
    have h1 := List.mem_range.1 hi
    have h2 := congrArg (fun l => l[i]?) hs
    simp only [List.getElem?_map, List.getElem?_range h1, Option.map_some, Option.some.injEq] at h2
    rw [h2]
  refine ⟨fun w H W => ?_⟩
  have W' : SM.wf ⟨r, td, sl', hp⟩ = true := by
    unfold SM.wf at W ⊢
    simp only [Bool.and_eq_true] at W ⊢
    exact ⟨hw, W.2⟩
  have g := k.go w H W'
  unfold Gs at g ⊢
  dsimp only at g ⊢
  rw [e]
  exact g
end
end Go.Proofs.YtmmcamkmglpgiaaGreatDoor

namespace Go.Proofs.YtmmcamkmglpgiaaGreatDoor
set_option linter.all false

section
variable (P : Program)
def cmpL (rec : TypeId → Value → Value → Option Bool) (xs ys : Array Value) : List Field → Option Bool
  | [] => some true
  | f :: l => match f.name != "_" with
    | true => match partS P f.type (xs.toList.map .v) f.offset, partS P f.type (ys.toList.map .v) f.offset with
      | some u, some u' => match rec f.type (u.den []) (u'.den []), cmpL rec xs ys l with
        | some a, some b => some (a && b)
        | _, _ => none
      | _, _ => none
    | false => none
def cmpI (rec : TypeId → Value → Value → Option Bool) (e : TypeId) (n : Nat) (xs ys : Array Value) : List Nat → Option Bool
  | [] => some true
  | i :: l => match partS P e (xs.toList.map .v) (i * n), partS P e (ys.toList.map .v) (i * n) with
    | some u, some u' => match rec e (u.den []) (u'.den []), cmpI rec e n xs ys l with
      | some a, some b => some (a && b)
      | _, _ => none
    | _, _ => none
/-- What a comparison of two values answers. -/
def cmpB : Nat → TypeId → Value → Value → Option Bool
  | 0, _, _, _ => none
  | m + 1, t, v, v' => match P.underlying t with
    | some .bool => match v, v' with
      | .bool a, .bool b => some (a == b)
      | _, _ => none
    | some (.int _) => match v, v' with
      | .int k a, .int k' b => match decide (k = k') with
        | true => some (a == b)
        | false => none
      | _, _ => none
    | some (.struct fs) => match v, v' with
      | .agg xs, .agg ys => match P.stoodInHeld t with
        | false => cmpL P (cmpB m) xs ys fs.toList
        | true => none
      | _, _ => none
    | some .string => match v, v' with
      | .string a, .string b => some (a.toList == b.toList)
      | _, _ => none
    | some (.array len e) => match v, v' with
      | .agg xs, .agg ys => match P.info? e with
        | some _ => cmpI P (cmpB m) e (P.cellsOf e) xs ys (List.range len)
        | none => none
      | _, _ => none
    | _ => none
end
section
variable {P : Program}
theorem cmpB_run : ∀ (m : Nat) (t : TypeId) (v v' : Value) (r : Bool), cmpB P m t v v' = some r → ∀ (d : Nat) (w : World), (Op.equalIn (d + m) t v v').run P w = .ok r w
  | 0, t, v, v', r, h, d, w => by simp [cmpB] at h
  | m + 1, t, v, v', r, h, d, w => by
    rw [show d + (m + 1) = (d + m) + 1 by omega]
    unfold cmpB at h
    split at h
    · rename_i hu
      split at h
      · rename_i a b
        injection h with h
        subst h
        rw [run_equalIn_bool' w (d + m) t a b hu]
      · cases h
    · rename_i k hu
      split at h
      · rename_i k1 a k2 b
        split at h
        · rename_i hk
          have hk : k1 = k2 := by simpa using hk
          subst hk
          injection h with h
          subst h
          rw [run_equalIn_int w (d + m) t k1 k a b hu]
        · cases h
      · cases h
    · rename_i fs hu
      split at h
      · rename_i xs ys
        split at h
        · rename_i hst
          have hf : P.fieldsOf t = fs := by unfold Program.fieldsOf; rw [hu]
          rw [run_equalIn_struct w (d + m) t xs ys (by rw [hf]; exact hu) hst, hf]
          have key : ∀ (l : List Field) (r : Bool), cmpL P (cmpB P m) xs ys l = some r → (Op.eqFields (d + m) xs ys l).run P w = .ok r w := by
            intro l
            induction l with
            | nil => intro r h; simp only [cmpL, Option.some.injEq] at h; subst h; simp [Op.eqFields]
            | cons f l ih =>
              intro r hl
              unfold cmpL at hl
              split at hl
              · rename_i h1
                split at hl
                · rename_i u u' hp hp'
                  split at hl
                  · rename_i a b ha hb
                    injection hl with hl
                    subst hl
                    have hpart : (part f.type xs f.offset).run P w = .ok (u.den []) w := by
                      have := run_part_S (β := []) (w := w) hp
                      rwa [dens_v, Array.toArray_toList] at this
                    have hpart' : (part f.type ys f.offset).run P w = .ok (u'.den []) w := by
                      have := run_part_S (β := []) (w := w) hp'
                      rwa [dens_v, Array.toArray_toList] at this
                    have hne : f.name ≠ "_" := by simpa using h1
                    have hc := cmpB_run m f.type (u.den []) (u'.den []) a ha d w
                    simp only [Op.eqFields, hne, ne_eq, not_false_eq_true, if_true, Sem.run_bind, hpart, hpart', Result.andThen_ok, hc]
                    cases a
                    · simp
                    · simp only [Bool.not_true, Bool.false_eq_true, if_false, Bool.true_and]
                      exact ih b hb
                  · cases hl
                · cases hl
              · cases hl
          exact key fs.toList r h
        · cases h
      · cases h
    · rename_i hu
      split at h
      · rename_i a b
        injection h with h
        subst h
        rw [run_equalIn_string w (d + m) t a b hu]
      · cases h
    · rename_i len e hu
      split at h
      · rename_i xs ys
        split at h
        · rename_i i hi
          rw [run_equalIn_array w (d + m) xs ys hu hi]
          have key : ∀ (l : List Nat) (r : Bool), cmpI P (cmpB P m) e (P.cellsOf e) xs ys l = some r → (Op.eqItems (d + m) e (P.cellsOf e) xs ys l).run P w = .ok r w := by
            intro l
            induction l with
            | nil => intro r h; simp only [cmpI, Option.some.injEq] at h; subst h; simp [Op.eqItems]
            | cons f l ih =>
              intro r hl
              unfold cmpI at hl
              split at hl
              · rename_i u u' hp hp'
                split at hl
                · rename_i a b ha hb
                  injection hl with hl
                  subst hl
                  have hpart : (part e xs (f * P.cellsOf e)).run P w = .ok (u.den []) w := by
                    have := run_part_S (β := []) (w := w) hp
                    rwa [dens_v, Array.toArray_toList] at this
                  have hpart' : (part e ys (f * P.cellsOf e)).run P w = .ok (u'.den []) w := by
                    have := run_part_S (β := []) (w := w) hp'
                    rwa [dens_v, Array.toArray_toList] at this
                  have hc := cmpB_run m e (u.den []) (u'.den []) a ha d w
                  simp only [Op.eqItems, Sem.run_bind, hpart, hpart', Result.andThen_ok, hc]
                  cases a
                  · simp
                  · simp only [Bool.not_true, Bool.false_eq_true, if_false, Bool.true_and]
                    exact ih b hb
                · cases hl
              · cases hl
          exact key (List.range len) r h
        · cases h
      · cases h
    · cases h
variable {f : FR} {R : Ending → World → Prop} {n : Nat} {w0 : World} {L : List Nat} {β : List Nat} {m : SM}
theorem run_cmp {op : BinOp} {T : TypeId} {xs ys : Array Value} {b r : Bool} (ho : op = .eql ∧ b = r ∨ op = .neq ∧ b = !r) (hm : P.eqGuardType P.depth T = false) (h : cmpB P 100 T (.agg xs) (.agg ys) = some r) (x y : Operand) (w : World) : ((do eqGuard op T x y (.agg xs) (.agg ys); binOp op T (.agg xs) (.agg ys)) : Sem Value).run P w = .ok (.bool b) w := by
  have hr := cmpB_run 100 T (.agg xs) (.agg ys) r h 9900 w
  rcases ho with ⟨rfl, rfl⟩ | ⟨rfl, rfl⟩
  · simp only [Sem.run_bind, run_eqGuard_agg w _ T x y xs ys hm, Result.andThen_ok, run_eql_struct]
    rw [show (10000 : Nat) = 9900 + 100 from rfl, hr]; rfl
  · simp only [Sem.run_bind, run_eqGuard_agg w _ T x y xs ys hm, Result.andThen_ok, run_neq_struct]
    rw [show (10000 : Nat) = 9900 + 100 from rfl, hr]; rfl
/-- Two structs compared. -/
theorem Hs.cmp {op : BinOp} {T : TypeId} (xs ys : Array Value) (r b : Bool) (hc : sameOf n β m = some (op, T, .agg xs, .agg ys)) (ho : op = .eql ∧ b = r ∨ op = .neq ∧ b = !r) (hm : (!P.eqGuardType P.depth T) = true) (hb : cmpB P 100 T (.agg xs) (.agg ys) = some r) (h : Hs P f R n w0 L β (m.put (dstOf m) (.c (.v (.bool b))) m.hp)) : Hs P f R n w0 L β m := by
  simp only [Bool.not_eq_true'] at hm
  refine ⟨fun w H W => ?_⟩
  unfold sameOf at hc
  split at hc
  · rename_i o hcur
    split at hc
    · rename_i hg
      split at hc
      · rename_i op' T' x y z hop
        simp only [Option.some.injEq, Prod.mk.injEq] at hc
        obtain ⟨rfl, rfl, hx, hy⟩ := hc
        have hd : dstOf m = o.dst := by unfold dstOf; rw [hcur]
        rw [hd] at h
        refine Gs.val (v := .c (.v (.bool b))) hcur hg ?_ (h.go w H ?_)
        · have hr := run_cmp (P := P) ho hm hb x y w
          simp only [execOp, hop, hx, hy, Sem.run_bind] at hr ⊢
          simp only [hr, Result.andThen_ok, Sem.run_pure]
          rfl
        · simp only [SM.wf, SM.put, Bool.and_eq_true]
          exact ⟨putS_wf (SM.wf_sl W) rfl, SM.wf_hp W⟩
      · cases hc
    · cases hc
  · cases hc
end
end Go.Proofs.YtmmcamkmglpgiaaGreatDoor

namespace Go.Proofs.YtmmcamkmglpgiaaGreatDoor
set_option linter.all false
set_option maxRecDepth 100000
open Go.RowKit

/-- All signals' names, by their numbers. -/
def sigL : List ByteArray := [⟨#[]⟩, ⟨#[72, 85, 80]⟩, ⟨#[73, 78, 84]⟩, ⟨#[81, 85, 73, 84]⟩, ⟨#[73, 76, 76]⟩, ⟨#[84, 82, 65, 80]⟩, ⟨#[65, 66, 82, 84]⟩, ⟨#[66, 85, 83]⟩, ⟨#[70, 80, 69]⟩, ⟨#[75, 73, 76, 76]⟩, ⟨#[85, 83, 82, 49]⟩, ⟨#[83, 69, 71, 86]⟩, ⟨#[85, 83, 82, 50]⟩, ⟨#[80, 73, 80, 69]⟩, ⟨#[65, 76, 82, 77]⟩, ⟨#[84, 69, 82, 77]⟩, ⟨#[]⟩, ⟨#[67, 72, 76, 68]⟩, ⟨#[67, 79, 78, 84]⟩, ⟨#[83, 84, 79, 80]⟩, ⟨#[84, 83, 84, 80]⟩, ⟨#[84, 84, 73, 78]⟩, ⟨#[84, 84, 79, 85]⟩, ⟨#[]⟩, ⟨#[]⟩, ⟨#[]⟩, ⟨#[]⟩, ⟨#[]⟩, ⟨#[87, 73, 78, 67, 72]⟩]
def nameS (n : Int) : ByteArray := (sigL[n.toNat]?).getD ⟨#[]⟩
/-- Is there such a signal? -/
def isS (n : Int) : Bool := (decide (1 ≤ n) && decide (n ≤ 15)) || ((decide (17 ≤ n) && decide (n ≤ 22)) || decide (n = 28))
def wireS (n : Int) : Bool := isS n && (decide (n ≤ 15) && (decide (n ≠ 5) && decide (n ≠ 7)))
theorem c28 {n : Int} (h1 : 1 ≤ n) (h2 : n ≤ 28) : n = 1 ∨ n = 2 ∨ n = 3 ∨ n = 4 ∨ n = 5 ∨ n = 6 ∨ n = 7 ∨ n = 8 ∨ n = 9 ∨ n = 10 ∨ n = 11 ∨ n = 12 ∨ n = 13 ∨ n = 14 ∨ n = 15 ∨ n = 16 ∨ n = 17 ∨ n = 18 ∨ n = 19 ∨ n = 20 ∨ n = 21 ∨ n = 22 ∨ n = 23 ∨ n = 24 ∨ n = 25 ∨ n = 26 ∨ n = 27 ∨ n = 28 := by omega
theorem isS_out {n : Int} (h : ¬ (1 ≤ n ∧ n ≤ 28)) : isS n = false := by
  unfold isS
  simp only [Bool.or_eq_false_iff, Bool.and_eq_false_iff, decide_eq_false_iff_not]
  omega
theorem is_any18 (n : Int) (w : World) : Calls Tryz.prog 112 #[.int .i64 n] w fun e w' => e = .returned (.bool (isS n)) ∧ Only [] w w' := by
  by_cases h : 1 ≤ n ∧ n ≤ 28
  · rcases c28 h.1 h.2 with  rfl | rfl | rfl | rfl | rfl | rfl | rfl | rfl | rfl | rfl | rfl | rfl | rfl | rfl | rfl | rfl | rfl | rfl | rfl | rfl | rfl | rfl | rfl | rfl | rfl | rfl | rfl | rfl 
    · refine Hs.enter Tryz.func112 [] [] [] [.c (.v (.int .i64 1))] (Mem.start0 w) (by kernel_rfl) (by kernel_rfl) ?_
      refine Hs.runK [131] 1000 1 Tryz.func112 rfl (by kernel_rfl) (fun ν => by kernel_rfl) (fun ν => by kernel_rfl) fun ν hν => ?_
      exact Hs.ret (v := (.bool (isS 1))) Tryz.func112 (by kernel_rfl) fun w' H => ⟨rfl, H.only⟩
    · refine Hs.enter Tryz.func112 [] [] [] [.c (.v (.int .i64 2))] (Mem.start0 w) (by kernel_rfl) (by kernel_rfl) ?_
      refine Hs.runK [131] 1000 1 Tryz.func112 rfl (by kernel_rfl) (fun ν => by kernel_rfl) (fun ν => by kernel_rfl) fun ν hν => ?_
      exact Hs.ret (v := (.bool (isS 2))) Tryz.func112 (by kernel_rfl) fun w' H => ⟨rfl, H.only⟩
    · refine Hs.enter Tryz.func112 [] [] [] [.c (.v (.int .i64 3))] (Mem.start0 w) (by kernel_rfl) (by kernel_rfl) ?_
      refine Hs.runK [131] 1000 1 Tryz.func112 rfl (by kernel_rfl) (fun ν => by kernel_rfl) (fun ν => by kernel_rfl) fun ν hν => ?_
      exact Hs.ret (v := (.bool (isS 3))) Tryz.func112 (by kernel_rfl) fun w' H => ⟨rfl, H.only⟩
    · refine Hs.enter Tryz.func112 [] [] [] [.c (.v (.int .i64 4))] (Mem.start0 w) (by kernel_rfl) (by kernel_rfl) ?_
      refine Hs.runK [131] 1000 1 Tryz.func112 rfl (by kernel_rfl) (fun ν => by kernel_rfl) (fun ν => by kernel_rfl) fun ν hν => ?_
      exact Hs.ret (v := (.bool (isS 4))) Tryz.func112 (by kernel_rfl) fun w' H => ⟨rfl, H.only⟩
    · refine Hs.enter Tryz.func112 [] [] [] [.c (.v (.int .i64 5))] (Mem.start0 w) (by kernel_rfl) (by kernel_rfl) ?_
      refine Hs.runK [131] 1000 1 Tryz.func112 rfl (by kernel_rfl) (fun ν => by kernel_rfl) (fun ν => by kernel_rfl) fun ν hν => ?_
      exact Hs.ret (v := (.bool (isS 5))) Tryz.func112 (by kernel_rfl) fun w' H => ⟨rfl, H.only⟩
    · refine Hs.enter Tryz.func112 [] [] [] [.c (.v (.int .i64 6))] (Mem.start0 w) (by kernel_rfl) (by kernel_rfl) ?_
      refine Hs.runK [131] 1000 1 Tryz.func112 rfl (by kernel_rfl) (fun ν => by kernel_rfl) (fun ν => by kernel_rfl) fun ν hν => ?_
      exact Hs.ret (v := (.bool (isS 6))) Tryz.func112 (by kernel_rfl) fun w' H => ⟨rfl, H.only⟩
    · refine Hs.enter Tryz.func112 [] [] [] [.c (.v (.int .i64 7))] (Mem.start0 w) (by kernel_rfl) (by kernel_rfl) ?_
      refine Hs.runK [131] 1000 1 Tryz.func112 rfl (by kernel_rfl) (fun ν => by kernel_rfl) (fun ν => by kernel_rfl) fun ν hν => ?_
      exact Hs.ret (v := (.bool (isS 7))) Tryz.func112 (by kernel_rfl) fun w' H => ⟨rfl, H.only⟩
    · refine Hs.enter Tryz.func112 [] [] [] [.c (.v (.int .i64 8))] (Mem.start0 w) (by kernel_rfl) (by kernel_rfl) ?_
      refine Hs.runK [131] 1000 1 Tryz.func112 rfl (by kernel_rfl) (fun ν => by kernel_rfl) (fun ν => by kernel_rfl) fun ν hν => ?_
      exact Hs.ret (v := (.bool (isS 8))) Tryz.func112 (by kernel_rfl) fun w' H => ⟨rfl, H.only⟩
    · refine Hs.enter Tryz.func112 [] [] [] [.c (.v (.int .i64 9))] (Mem.start0 w) (by kernel_rfl) (by kernel_rfl) ?_
      refine Hs.runK [131] 1000 1 Tryz.func112 rfl (by kernel_rfl) (fun ν => by kernel_rfl) (fun ν => by kernel_rfl) fun ν hν => ?_
      exact Hs.ret (v := (.bool (isS 9))) Tryz.func112 (by kernel_rfl) fun w' H => ⟨rfl, H.only⟩
    · refine Hs.enter Tryz.func112 [] [] [] [.c (.v (.int .i64 10))] (Mem.start0 w) (by kernel_rfl) (by kernel_rfl) ?_
      refine Hs.runK [131] 1000 1 Tryz.func112 rfl (by kernel_rfl) (fun ν => by kernel_rfl) (fun ν => by kernel_rfl) fun ν hν => ?_
      exact Hs.ret (v := (.bool (isS 10))) Tryz.func112 (by kernel_rfl) fun w' H => ⟨rfl, H.only⟩
    · refine Hs.enter Tryz.func112 [] [] [] [.c (.v (.int .i64 11))] (Mem.start0 w) (by kernel_rfl) (by kernel_rfl) ?_
      refine Hs.runK [131] 1000 1 Tryz.func112 rfl (by kernel_rfl) (fun ν => by kernel_rfl) (fun ν => by kernel_rfl) fun ν hν => ?_
      exact Hs.ret (v := (.bool (isS 11))) Tryz.func112 (by kernel_rfl) fun w' H => ⟨rfl, H.only⟩
    · refine Hs.enter Tryz.func112 [] [] [] [.c (.v (.int .i64 12))] (Mem.start0 w) (by kernel_rfl) (by kernel_rfl) ?_
      refine Hs.runK [131] 1000 1 Tryz.func112 rfl (by kernel_rfl) (fun ν => by kernel_rfl) (fun ν => by kernel_rfl) fun ν hν => ?_
      exact Hs.ret (v := (.bool (isS 12))) Tryz.func112 (by kernel_rfl) fun w' H => ⟨rfl, H.only⟩
    · refine Hs.enter Tryz.func112 [] [] [] [.c (.v (.int .i64 13))] (Mem.start0 w) (by kernel_rfl) (by kernel_rfl) ?_
      refine Hs.runK [131] 1000 1 Tryz.func112 rfl (by kernel_rfl) (fun ν => by kernel_rfl) (fun ν => by kernel_rfl) fun ν hν => ?_
      exact Hs.ret (v := (.bool (isS 13))) Tryz.func112 (by kernel_rfl) fun w' H => ⟨rfl, H.only⟩
    · refine Hs.enter Tryz.func112 [] [] [] [.c (.v (.int .i64 14))] (Mem.start0 w) (by kernel_rfl) (by kernel_rfl) ?_
      refine Hs.runK [131] 1000 1 Tryz.func112 rfl (by kernel_rfl) (fun ν => by kernel_rfl) (fun ν => by kernel_rfl) fun ν hν => ?_
      exact Hs.ret (v := (.bool (isS 14))) Tryz.func112 (by kernel_rfl) fun w' H => ⟨rfl, H.only⟩
    · refine Hs.enter Tryz.func112 [] [] [] [.c (.v (.int .i64 15))] (Mem.start0 w) (by kernel_rfl) (by kernel_rfl) ?_
      refine Hs.runK [131] 1000 1 Tryz.func112 rfl (by kernel_rfl) (fun ν => by kernel_rfl) (fun ν => by kernel_rfl) fun ν hν => ?_
      exact Hs.ret (v := (.bool (isS 15))) Tryz.func112 (by kernel_rfl) fun w' H => ⟨rfl, H.only⟩
    · refine Hs.enter Tryz.func112 [] [] [] [.c (.v (.int .i64 16))] (Mem.start0 w) (by kernel_rfl) (by kernel_rfl) ?_
      refine Hs.runK [131] 1000 1 Tryz.func112 rfl (by kernel_rfl) (fun ν => by kernel_rfl) (fun ν => by kernel_rfl) fun ν hν => ?_
      exact Hs.ret (v := (.bool (isS 16))) Tryz.func112 (by kernel_rfl) fun w' H => ⟨rfl, H.only⟩
    · refine Hs.enter Tryz.func112 [] [] [] [.c (.v (.int .i64 17))] (Mem.start0 w) (by kernel_rfl) (by kernel_rfl) ?_
      refine Hs.runK [131] 1000 1 Tryz.func112 rfl (by kernel_rfl) (fun ν => by kernel_rfl) (fun ν => by kernel_rfl) fun ν hν => ?_
      exact Hs.ret (v := (.bool (isS 17))) Tryz.func112 (by kernel_rfl) fun w' H => ⟨rfl, H.only⟩
    · refine Hs.enter Tryz.func112 [] [] [] [.c (.v (.int .i64 18))] (Mem.start0 w) (by kernel_rfl) (by kernel_rfl) ?_
      refine Hs.runK [131] 1000 1 Tryz.func112 rfl (by kernel_rfl) (fun ν => by kernel_rfl) (fun ν => by kernel_rfl) fun ν hν => ?_
      exact Hs.ret (v := (.bool (isS 18))) Tryz.func112 (by kernel_rfl) fun w' H => ⟨rfl, H.only⟩
    · refine Hs.enter Tryz.func112 [] [] [] [.c (.v (.int .i64 19))] (Mem.start0 w) (by kernel_rfl) (by kernel_rfl) ?_
      refine Hs.runK [131] 1000 1 Tryz.func112 rfl (by kernel_rfl) (fun ν => by kernel_rfl) (fun ν => by kernel_rfl) fun ν hν => ?_
      exact Hs.ret (v := (.bool (isS 19))) Tryz.func112 (by kernel_rfl) fun w' H => ⟨rfl, H.only⟩
    · refine Hs.enter Tryz.func112 [] [] [] [.c (.v (.int .i64 20))] (Mem.start0 w) (by kernel_rfl) (by kernel_rfl) ?_
      refine Hs.runK [131] 1000 1 Tryz.func112 rfl (by kernel_rfl) (fun ν => by kernel_rfl) (fun ν => by kernel_rfl) fun ν hν => ?_
      exact Hs.ret (v := (.bool (isS 20))) Tryz.func112 (by kernel_rfl) fun w' H => ⟨rfl, H.only⟩
    · refine Hs.enter Tryz.func112 [] [] [] [.c (.v (.int .i64 21))] (Mem.start0 w) (by kernel_rfl) (by kernel_rfl) ?_
      refine Hs.runK [131] 1000 1 Tryz.func112 rfl (by kernel_rfl) (fun ν => by kernel_rfl) (fun ν => by kernel_rfl) fun ν hν => ?_
      exact Hs.ret (v := (.bool (isS 21))) Tryz.func112 (by kernel_rfl) fun w' H => ⟨rfl, H.only⟩
    · refine Hs.enter Tryz.func112 [] [] [] [.c (.v (.int .i64 22))] (Mem.start0 w) (by kernel_rfl) (by kernel_rfl) ?_
      refine Hs.runK [131] 1000 1 Tryz.func112 rfl (by kernel_rfl) (fun ν => by kernel_rfl) (fun ν => by kernel_rfl) fun ν hν => ?_
      exact Hs.ret (v := (.bool (isS 22))) Tryz.func112 (by kernel_rfl) fun w' H => ⟨rfl, H.only⟩
    · refine Hs.enter Tryz.func112 [] [] [] [.c (.v (.int .i64 23))] (Mem.start0 w) (by kernel_rfl) (by kernel_rfl) ?_
      refine Hs.runK [131] 1000 1 Tryz.func112 rfl (by kernel_rfl) (fun ν => by kernel_rfl) (fun ν => by kernel_rfl) fun ν hν => ?_
      exact Hs.ret (v := (.bool (isS 23))) Tryz.func112 (by kernel_rfl) fun w' H => ⟨rfl, H.only⟩
    · refine Hs.enter Tryz.func112 [] [] [] [.c (.v (.int .i64 24))] (Mem.start0 w) (by kernel_rfl) (by kernel_rfl) ?_
      refine Hs.runK [131] 1000 1 Tryz.func112 rfl (by kernel_rfl) (fun ν => by kernel_rfl) (fun ν => by kernel_rfl) fun ν hν => ?_
      exact Hs.ret (v := (.bool (isS 24))) Tryz.func112 (by kernel_rfl) fun w' H => ⟨rfl, H.only⟩
    · refine Hs.enter Tryz.func112 [] [] [] [.c (.v (.int .i64 25))] (Mem.start0 w) (by kernel_rfl) (by kernel_rfl) ?_
      refine Hs.runK [131] 1000 1 Tryz.func112 rfl (by kernel_rfl) (fun ν => by kernel_rfl) (fun ν => by kernel_rfl) fun ν hν => ?_
      exact Hs.ret (v := (.bool (isS 25))) Tryz.func112 (by kernel_rfl) fun w' H => ⟨rfl, H.only⟩
    · refine Hs.enter Tryz.func112 [] [] [] [.c (.v (.int .i64 26))] (Mem.start0 w) (by kernel_rfl) (by kernel_rfl) ?_
      refine Hs.runK [131] 1000 1 Tryz.func112 rfl (by kernel_rfl) (fun ν => by kernel_rfl) (fun ν => by kernel_rfl) fun ν hν => ?_
      exact Hs.ret (v := (.bool (isS 26))) Tryz.func112 (by kernel_rfl) fun w' H => ⟨rfl, H.only⟩
    · refine Hs.enter Tryz.func112 [] [] [] [.c (.v (.int .i64 27))] (Mem.start0 w) (by kernel_rfl) (by kernel_rfl) ?_
      refine Hs.runK [131] 1000 1 Tryz.func112 rfl (by kernel_rfl) (fun ν => by kernel_rfl) (fun ν => by kernel_rfl) fun ν hν => ?_
      exact Hs.ret (v := (.bool (isS 27))) Tryz.func112 (by kernel_rfl) fun w' H => ⟨rfl, H.only⟩
    · refine Hs.enter Tryz.func112 [] [] [] [.c (.v (.int .i64 28))] (Mem.start0 w) (by kernel_rfl) (by kernel_rfl) ?_
      refine Hs.runK [131] 1000 1 Tryz.func112 rfl (by kernel_rfl) (fun ν => by kernel_rfl) (fun ν => by kernel_rfl) fun ν hν => ?_
      exact Hs.ret (v := (.bool (isS 28))) Tryz.func112 (by kernel_rfl) fun w' H => ⟨rfl, H.only⟩
  · have e : isS n = false := isS_out h
    rw [e]
    refine Hs.enter Tryz.func112 [] [] [] [.c (.v (.int .i64 n))] (Mem.start0 w) (by kernel_rfl) (by kernel_rfl) ?_
    refine Hs.run0 300 (fun _ => by kernel_rfl) ?_
    refine Hs.bool 5 (decide (n > 0)) (by kernel_rfl) (fun h1 => ?_) (fun h1 => ?_)
    · replace h1 : n > 0 := by simpa using h1
      refine Hs.rung0 [2] 300 (fun _ => by kernel_rfl) ?_
      refine Hs.bool 9 (decide (n ≤ 28)) (by kernel_rfl) (fun h2 => absurd ⟨h1, by simpa using h2⟩ h) (fun h2 => ?_)
      refine Hs.rung0 [2, 6] 300 (fun _ => by kernel_rfl) ?_
      exact Hs.ret (v := .bool false) Tryz.func112 (by kernel_rfl) fun w' H => ⟨rfl, H.only⟩
    · refine Hs.rung0 [2, 6] 300 (fun _ => by kernel_rfl) ?_
      exact Hs.ret (v := .bool false) Tryz.func112 (by kernel_rfl) fun w' H => ⟨rfl, H.only⟩
theorem name_any18 (n : Int) (w : World) : Calls Tryz.prog 111 #[.int .i64 n] w fun e w' => e = .returned (.tuple #[.string (if isS n then nameS n else ⟨#[]⟩), .bool (isS n)]) ∧ Only [] w w' := by
  by_cases h : 1 ≤ n ∧ n ≤ 28
  · rcases c28 h.1 h.2 with  rfl | rfl | rfl | rfl | rfl | rfl | rfl | rfl | rfl | rfl | rfl | rfl | rfl | rfl | rfl | rfl | rfl | rfl | rfl | rfl | rfl | rfl | rfl | rfl | rfl | rfl | rfl | rfl 
    · refine Hs.enter Tryz.func111 [] [] [] [.c (.v (.int .i64 1))] (Mem.start0 w) (by kernel_rfl) (by kernel_rfl) ?_
      refine Hs.runK [131, 112] 1000 2 Tryz.func111 rfl (by kernel_rfl) (fun ν => by kernel_rfl) (fun ν => by kernel_rfl) fun ν hν => ?_
      exact Hs.ret (v := (.tuple #[.string (if isS 1 then nameS 1 else ⟨#[]⟩), .bool (isS 1)])) Tryz.func111 (by kernel_rfl) fun w' H => ⟨rfl, H.only⟩
    · refine Hs.enter Tryz.func111 [] [] [] [.c (.v (.int .i64 2))] (Mem.start0 w) (by kernel_rfl) (by kernel_rfl) ?_
      refine Hs.runK [131, 112] 1000 2 Tryz.func111 rfl (by kernel_rfl) (fun ν => by kernel_rfl) (fun ν => by kernel_rfl) fun ν hν => ?_
      exact Hs.ret (v := (.tuple #[.string (if isS 2 then nameS 2 else ⟨#[]⟩), .bool (isS 2)])) Tryz.func111 (by kernel_rfl) fun w' H => ⟨rfl, H.only⟩
    · refine Hs.enter Tryz.func111 [] [] [] [.c (.v (.int .i64 3))] (Mem.start0 w) (by kernel_rfl) (by kernel_rfl) ?_
      refine Hs.runK [131, 112] 1000 2 Tryz.func111 rfl (by kernel_rfl) (fun ν => by kernel_rfl) (fun ν => by kernel_rfl) fun ν hν => ?_
      exact Hs.ret (v := (.tuple #[.string (if isS 3 then nameS 3 else ⟨#[]⟩), .bool (isS 3)])) Tryz.func111 (by kernel_rfl) fun w' H => ⟨rfl, H.only⟩
    · refine Hs.enter Tryz.func111 [] [] [] [.c (.v (.int .i64 4))] (Mem.start0 w) (by kernel_rfl) (by kernel_rfl) ?_
      refine Hs.runK [131, 112] 1000 2 Tryz.func111 rfl (by kernel_rfl) (fun ν => by kernel_rfl) (fun ν => by kernel_rfl) fun ν hν => ?_
      exact Hs.ret (v := (.tuple #[.string (if isS 4 then nameS 4 else ⟨#[]⟩), .bool (isS 4)])) Tryz.func111 (by kernel_rfl) fun w' H => ⟨rfl, H.only⟩
    · refine Hs.enter Tryz.func111 [] [] [] [.c (.v (.int .i64 5))] (Mem.start0 w) (by kernel_rfl) (by kernel_rfl) ?_
      refine Hs.runK [131, 112] 1000 2 Tryz.func111 rfl (by kernel_rfl) (fun ν => by kernel_rfl) (fun ν => by kernel_rfl) fun ν hν => ?_
      exact Hs.ret (v := (.tuple #[.string (if isS 5 then nameS 5 else ⟨#[]⟩), .bool (isS 5)])) Tryz.func111 (by kernel_rfl) fun w' H => ⟨rfl, H.only⟩
    · refine Hs.enter Tryz.func111 [] [] [] [.c (.v (.int .i64 6))] (Mem.start0 w) (by kernel_rfl) (by kernel_rfl) ?_
      refine Hs.runK [131, 112] 1000 2 Tryz.func111 rfl (by kernel_rfl) (fun ν => by kernel_rfl) (fun ν => by kernel_rfl) fun ν hν => ?_
      exact Hs.ret (v := (.tuple #[.string (if isS 6 then nameS 6 else ⟨#[]⟩), .bool (isS 6)])) Tryz.func111 (by kernel_rfl) fun w' H => ⟨rfl, H.only⟩
    · refine Hs.enter Tryz.func111 [] [] [] [.c (.v (.int .i64 7))] (Mem.start0 w) (by kernel_rfl) (by kernel_rfl) ?_
      refine Hs.runK [131, 112] 1000 2 Tryz.func111 rfl (by kernel_rfl) (fun ν => by kernel_rfl) (fun ν => by kernel_rfl) fun ν hν => ?_
      exact Hs.ret (v := (.tuple #[.string (if isS 7 then nameS 7 else ⟨#[]⟩), .bool (isS 7)])) Tryz.func111 (by kernel_rfl) fun w' H => ⟨rfl, H.only⟩
    · refine Hs.enter Tryz.func111 [] [] [] [.c (.v (.int .i64 8))] (Mem.start0 w) (by kernel_rfl) (by kernel_rfl) ?_
      refine Hs.runK [131, 112] 1000 2 Tryz.func111 rfl (by kernel_rfl) (fun ν => by kernel_rfl) (fun ν => by kernel_rfl) fun ν hν => ?_
      exact Hs.ret (v := (.tuple #[.string (if isS 8 then nameS 8 else ⟨#[]⟩), .bool (isS 8)])) Tryz.func111 (by kernel_rfl) fun w' H => ⟨rfl, H.only⟩
    · refine Hs.enter Tryz.func111 [] [] [] [.c (.v (.int .i64 9))] (Mem.start0 w) (by kernel_rfl) (by kernel_rfl) ?_
      refine Hs.runK [131, 112] 1000 2 Tryz.func111 rfl (by kernel_rfl) (fun ν => by kernel_rfl) (fun ν => by kernel_rfl) fun ν hν => ?_
      exact Hs.ret (v := (.tuple #[.string (if isS 9 then nameS 9 else ⟨#[]⟩), .bool (isS 9)])) Tryz.func111 (by kernel_rfl) fun w' H => ⟨rfl, H.only⟩
    · refine Hs.enter Tryz.func111 [] [] [] [.c (.v (.int .i64 10))] (Mem.start0 w) (by kernel_rfl) (by kernel_rfl) ?_
      refine Hs.runK [131, 112] 1000 2 Tryz.func111 rfl (by kernel_rfl) (fun ν => by kernel_rfl) (fun ν => by kernel_rfl) fun ν hν => ?_
      exact Hs.ret (v := (.tuple #[.string (if isS 10 then nameS 10 else ⟨#[]⟩), .bool (isS 10)])) Tryz.func111 (by kernel_rfl) fun w' H => ⟨rfl, H.only⟩
    · refine Hs.enter Tryz.func111 [] [] [] [.c (.v (.int .i64 11))] (Mem.start0 w) (by kernel_rfl) (by kernel_rfl) ?_
      refine Hs.runK [131, 112] 1000 2 Tryz.func111 rfl (by kernel_rfl) (fun ν => by kernel_rfl) (fun ν => by kernel_rfl) fun ν hν => ?_
      exact Hs.ret (v := (.tuple #[.string (if isS 11 then nameS 11 else ⟨#[]⟩), .bool (isS 11)])) Tryz.func111 (by kernel_rfl) fun w' H => ⟨rfl, H.only⟩
    · refine Hs.enter Tryz.func111 [] [] [] [.c (.v (.int .i64 12))] (Mem.start0 w) (by kernel_rfl) (by kernel_rfl) ?_
      refine Hs.runK [131, 112] 1000 2 Tryz.func111 rfl (by kernel_rfl) (fun ν => by kernel_rfl) (fun ν => by kernel_rfl) fun ν hν => ?_
      exact Hs.ret (v := (.tuple #[.string (if isS 12 then nameS 12 else ⟨#[]⟩), .bool (isS 12)])) Tryz.func111 (by kernel_rfl) fun w' H => ⟨rfl, H.only⟩
    · refine Hs.enter Tryz.func111 [] [] [] [.c (.v (.int .i64 13))] (Mem.start0 w) (by kernel_rfl) (by kernel_rfl) ?_
      refine Hs.runK [131, 112] 1000 2 Tryz.func111 rfl (by kernel_rfl) (fun ν => by kernel_rfl) (fun ν => by kernel_rfl) fun ν hν => ?_
      exact Hs.ret (v := (.tuple #[.string (if isS 13 then nameS 13 else ⟨#[]⟩), .bool (isS 13)])) Tryz.func111 (by kernel_rfl) fun w' H => ⟨rfl, H.only⟩
    · refine Hs.enter Tryz.func111 [] [] [] [.c (.v (.int .i64 14))] (Mem.start0 w) (by kernel_rfl) (by kernel_rfl) ?_
      refine Hs.runK [131, 112] 1000 2 Tryz.func111 rfl (by kernel_rfl) (fun ν => by kernel_rfl) (fun ν => by kernel_rfl) fun ν hν => ?_
      exact Hs.ret (v := (.tuple #[.string (if isS 14 then nameS 14 else ⟨#[]⟩), .bool (isS 14)])) Tryz.func111 (by kernel_rfl) fun w' H => ⟨rfl, H.only⟩
    · refine Hs.enter Tryz.func111 [] [] [] [.c (.v (.int .i64 15))] (Mem.start0 w) (by kernel_rfl) (by kernel_rfl) ?_
      refine Hs.runK [131, 112] 1000 2 Tryz.func111 rfl (by kernel_rfl) (fun ν => by kernel_rfl) (fun ν => by kernel_rfl) fun ν hν => ?_
      exact Hs.ret (v := (.tuple #[.string (if isS 15 then nameS 15 else ⟨#[]⟩), .bool (isS 15)])) Tryz.func111 (by kernel_rfl) fun w' H => ⟨rfl, H.only⟩
    · refine Hs.enter Tryz.func111 [] [] [] [.c (.v (.int .i64 16))] (Mem.start0 w) (by kernel_rfl) (by kernel_rfl) ?_
      refine Hs.runK [131, 112] 1000 1 Tryz.func111 rfl (by kernel_rfl) (fun ν => by kernel_rfl) (fun ν => by kernel_rfl) fun ν hν => ?_
      exact Hs.ret (v := (.tuple #[.string (if isS 16 then nameS 16 else ⟨#[]⟩), .bool (isS 16)])) Tryz.func111 (by kernel_rfl) fun w' H => ⟨rfl, H.only⟩
    · refine Hs.enter Tryz.func111 [] [] [] [.c (.v (.int .i64 17))] (Mem.start0 w) (by kernel_rfl) (by kernel_rfl) ?_
      refine Hs.runK [131, 112] 1000 2 Tryz.func111 rfl (by kernel_rfl) (fun ν => by kernel_rfl) (fun ν => by kernel_rfl) fun ν hν => ?_
      exact Hs.ret (v := (.tuple #[.string (if isS 17 then nameS 17 else ⟨#[]⟩), .bool (isS 17)])) Tryz.func111 (by kernel_rfl) fun w' H => ⟨rfl, H.only⟩
    · refine Hs.enter Tryz.func111 [] [] [] [.c (.v (.int .i64 18))] (Mem.start0 w) (by kernel_rfl) (by kernel_rfl) ?_
      refine Hs.runK [131, 112] 1000 2 Tryz.func111 rfl (by kernel_rfl) (fun ν => by kernel_rfl) (fun ν => by kernel_rfl) fun ν hν => ?_
      exact Hs.ret (v := (.tuple #[.string (if isS 18 then nameS 18 else ⟨#[]⟩), .bool (isS 18)])) Tryz.func111 (by kernel_rfl) fun w' H => ⟨rfl, H.only⟩
    · refine Hs.enter Tryz.func111 [] [] [] [.c (.v (.int .i64 19))] (Mem.start0 w) (by kernel_rfl) (by kernel_rfl) ?_
      refine Hs.runK [131, 112] 1000 2 Tryz.func111 rfl (by kernel_rfl) (fun ν => by kernel_rfl) (fun ν => by kernel_rfl) fun ν hν => ?_
      exact Hs.ret (v := (.tuple #[.string (if isS 19 then nameS 19 else ⟨#[]⟩), .bool (isS 19)])) Tryz.func111 (by kernel_rfl) fun w' H => ⟨rfl, H.only⟩
    · refine Hs.enter Tryz.func111 [] [] [] [.c (.v (.int .i64 20))] (Mem.start0 w) (by kernel_rfl) (by kernel_rfl) ?_
      refine Hs.runK [131, 112] 1000 2 Tryz.func111 rfl (by kernel_rfl) (fun ν => by kernel_rfl) (fun ν => by kernel_rfl) fun ν hν => ?_
      exact Hs.ret (v := (.tuple #[.string (if isS 20 then nameS 20 else ⟨#[]⟩), .bool (isS 20)])) Tryz.func111 (by kernel_rfl) fun w' H => ⟨rfl, H.only⟩
    · refine Hs.enter Tryz.func111 [] [] [] [.c (.v (.int .i64 21))] (Mem.start0 w) (by kernel_rfl) (by kernel_rfl) ?_
      refine Hs.runK [131, 112] 1000 2 Tryz.func111 rfl (by kernel_rfl) (fun ν => by kernel_rfl) (fun ν => by kernel_rfl) fun ν hν => ?_
      exact Hs.ret (v := (.tuple #[.string (if isS 21 then nameS 21 else ⟨#[]⟩), .bool (isS 21)])) Tryz.func111 (by kernel_rfl) fun w' H => ⟨rfl, H.only⟩
    · refine Hs.enter Tryz.func111 [] [] [] [.c (.v (.int .i64 22))] (Mem.start0 w) (by kernel_rfl) (by kernel_rfl) ?_
      refine Hs.runK [131, 112] 1000 2 Tryz.func111 rfl (by kernel_rfl) (fun ν => by kernel_rfl) (fun ν => by kernel_rfl) fun ν hν => ?_
      exact Hs.ret (v := (.tuple #[.string (if isS 22 then nameS 22 else ⟨#[]⟩), .bool (isS 22)])) Tryz.func111 (by kernel_rfl) fun w' H => ⟨rfl, H.only⟩
    · refine Hs.enter Tryz.func111 [] [] [] [.c (.v (.int .i64 23))] (Mem.start0 w) (by kernel_rfl) (by kernel_rfl) ?_
      refine Hs.runK [131, 112] 1000 1 Tryz.func111 rfl (by kernel_rfl) (fun ν => by kernel_rfl) (fun ν => by kernel_rfl) fun ν hν => ?_
      exact Hs.ret (v := (.tuple #[.string (if isS 23 then nameS 23 else ⟨#[]⟩), .bool (isS 23)])) Tryz.func111 (by kernel_rfl) fun w' H => ⟨rfl, H.only⟩
    · refine Hs.enter Tryz.func111 [] [] [] [.c (.v (.int .i64 24))] (Mem.start0 w) (by kernel_rfl) (by kernel_rfl) ?_
      refine Hs.runK [131, 112] 1000 1 Tryz.func111 rfl (by kernel_rfl) (fun ν => by kernel_rfl) (fun ν => by kernel_rfl) fun ν hν => ?_
      exact Hs.ret (v := (.tuple #[.string (if isS 24 then nameS 24 else ⟨#[]⟩), .bool (isS 24)])) Tryz.func111 (by kernel_rfl) fun w' H => ⟨rfl, H.only⟩
    · refine Hs.enter Tryz.func111 [] [] [] [.c (.v (.int .i64 25))] (Mem.start0 w) (by kernel_rfl) (by kernel_rfl) ?_
      refine Hs.runK [131, 112] 1000 1 Tryz.func111 rfl (by kernel_rfl) (fun ν => by kernel_rfl) (fun ν => by kernel_rfl) fun ν hν => ?_
      exact Hs.ret (v := (.tuple #[.string (if isS 25 then nameS 25 else ⟨#[]⟩), .bool (isS 25)])) Tryz.func111 (by kernel_rfl) fun w' H => ⟨rfl, H.only⟩
    · refine Hs.enter Tryz.func111 [] [] [] [.c (.v (.int .i64 26))] (Mem.start0 w) (by kernel_rfl) (by kernel_rfl) ?_
      refine Hs.runK [131, 112] 1000 1 Tryz.func111 rfl (by kernel_rfl) (fun ν => by kernel_rfl) (fun ν => by kernel_rfl) fun ν hν => ?_
      exact Hs.ret (v := (.tuple #[.string (if isS 26 then nameS 26 else ⟨#[]⟩), .bool (isS 26)])) Tryz.func111 (by kernel_rfl) fun w' H => ⟨rfl, H.only⟩
    · refine Hs.enter Tryz.func111 [] [] [] [.c (.v (.int .i64 27))] (Mem.start0 w) (by kernel_rfl) (by kernel_rfl) ?_
      refine Hs.runK [131, 112] 1000 1 Tryz.func111 rfl (by kernel_rfl) (fun ν => by kernel_rfl) (fun ν => by kernel_rfl) fun ν hν => ?_
      exact Hs.ret (v := (.tuple #[.string (if isS 27 then nameS 27 else ⟨#[]⟩), .bool (isS 27)])) Tryz.func111 (by kernel_rfl) fun w' H => ⟨rfl, H.only⟩
    · refine Hs.enter Tryz.func111 [] [] [] [.c (.v (.int .i64 28))] (Mem.start0 w) (by kernel_rfl) (by kernel_rfl) ?_
      refine Hs.runK [131, 112] 1000 2 Tryz.func111 rfl (by kernel_rfl) (fun ν => by kernel_rfl) (fun ν => by kernel_rfl) fun ν hν => ?_
      exact Hs.ret (v := (.tuple #[.string (if isS 28 then nameS 28 else ⟨#[]⟩), .bool (isS 28)])) Tryz.func111 (by kernel_rfl) fun w' H => ⟨rfl, H.only⟩
  · have e : isS n = false := isS_out h
    rw [e]
    refine Hs.enter Tryz.func111 [] [] [] [.c (.v (.int .i64 n))] (Mem.start0 w) (by kernel_rfl) (by kernel_rfl) ?_
    refine Hs.run0 300 (fun _ => by kernel_rfl) ?_
    refine Hs.callV (fun w' H => by have := is_any18 n w'; rw [e] at this; exact this) (by kernel_rfl) ?_
    refine Hs.run0 300 (fun _ => by kernel_rfl) ?_
    refine Hs.condT (by kernel_rfl) ?_
    refine Hs.run0 300 (fun _ => by kernel_rfl) ?_
    exact Hs.ret (v := .tuple #[.string ⟨#[]⟩, .bool false]) Tryz.func111 (by kernel_rfl) fun w' H => ⟨rfl, H.only⟩
/-- The first place of a name. -/
def idxS (nm : ByteArray) : List ByteArray → Int → Int
  | [], _ => -1
  | s :: l, i => if eqL nm.data.toList s.data.toList then i else idxS nm l (i + 1)
def numI (nm : ByteArray) : Int := idxS nm sigL 0
def numS (nm : ByteArray) : Int := if numI nm > 0 then numI nm else 0
def numB (nm : ByteArray) : Bool := decide (numI nm > 0)
end Go.Proofs.YtmmcamkmglpgiaaGreatDoor
