/- The machine: a call that makes two blocks, one of which points to the other; over any program; no condition. -/
import Derived.Test.YtnfcdbjckdhieaaGreatEngAH
import Derived.Test.YtnfcdbjckdhieaaGreatPkD
namespace Go.Proofs.YtnfcdbjckdhieaaGreat
set_option linter.all false
set_option maxRecDepth 100000
open Go.RowKit

/-- A block that none of ours is. -/
theorem Mem.add {w0 w : World} {L β : List Nat} {hp : List HB} (H : Mem w0 L β hp w) (hw : hp.all (HB.wf β.length) = true) {b : Nat} {h : HB} (hf : ∀ (k : Nat) (h' : HB) (x : Nat), hp[k]? = some h' → h'.blk (nm β k) = some x → h.blk b = some x → False) (ho : ∀ x, h.blk b = some x → w0.heap.size ≤ x) (hl : h.lies w (β ++ [b]) b) : Mem w0 L (β ++ [b]) (hp ++ [h]) w := by
  have hget : ∀ k x, (hp ++ [h])[k]? = some x → (k < hp.length ∧ hp[k]? = some x) ∨ (k = hp.length ∧ x = h) := by
    intro k x hk
    rcases Nat.lt_or_ge k hp.length with hlt | hge
    · rw [List.getElem?_append_left hlt] at hk; exact .inl ⟨hlt, hk⟩
    · rw [List.getElem?_append_right hge] at hk
      have h0 : k - hp.length = 0 := by
        rcases Nat.eq_zero_or_pos (k - hp.length) with h1 | h1
        · exact h1
        · rw [List.getElem?_eq_none (by simp; omega)] at hk; cases hk
      rw [h0] at hk
      exact .inr ⟨by omega, by simpa using hk.symm⟩
  refine ⟨H.only, by simp [H.len], fun k x hk => ?_, fun k x y hk hwr hy => ?_, fun i j hi hj x ei ej li lj => ?_⟩
  · rcases hget k x hk with ⟨hlt, hk⟩ | ⟨rfl, rfl⟩
    · rw [nm_app _ _ _ (by rw [H.len]; exact hlt)]
      rw [HB.lies_app _ (List.all_eq_true.1 hw x (List.mem_of_getElem? hk))]
      exact H.lies k x hk
    · rw [← H.len, nm_last]; exact hl
  · rcases hget k x hk with ⟨hlt, hk⟩ | ⟨rfl, rfl⟩
    · rw [nm_app _ _ _ (by rw [H.len]; exact hlt)] at hy; exact H.own k x y hk hwr hy
    · rw [← H.len, nm_last] at hy; exact .inr (ho y hy)
  · rcases hget i hi ei with ⟨hlt, ei'⟩ | ⟨rfl, rfl⟩
    · rw [nm_app _ _ _ (by rw [H.len]; exact hlt)] at li
      rcases hget j hj ej with ⟨hlt2, ej'⟩ | ⟨rfl, rfl⟩
      · rw [nm_app _ _ _ (by rw [H.len]; exact hlt2)] at lj
        exact H.inj i j hi hj x ei' ej' li lj
      · rw [← H.len, nm_last] at lj
        exact (hf i hi x ei' li lj).elim
    · rw [← H.len, nm_last] at li
      rcases hget j hj ej with ⟨hlt2, ej'⟩ | ⟨rfl, rfl⟩
      · rw [nm_app _ _ j (by rw [H.len]; exact hlt2)] at lj
        exact (hf j hj x ej' lj li).elim
      · rfl
theorem wf_moreB {a b : Nat} {h : HB} (hab : a ≤ b) (hw : h.wf a = true) : h.wf b = true := by
  cases h with
  | b _ _ cs => exact List.all_eq_true.2 fun u hu => SC.wf_mono hab (List.all_eq_true.1 hw u hu)
  | _ => rfl
/-- What a call has made: a block p that points to another one, g, and things that stay. -/
def NewB2 (w : World) (T1 T2 : TypeId) {X : Type} (cs1 : X → Nat → List Value) (cs2 : X → List Value) (Q : X → World → Prop) : Ending → World → Prop := fun e w' => ∃ p g x, e = .returned (.pointer (some ⟨p, 0, none⟩)) ∧ Only [] w w' ∧ w.heap.size ≤ p ∧ w.heap.size ≤ g ∧ p ≠ g ∧ Blk w' p T1 (cs1 x g) ∧ Blk w' g T2 (cs2 x) ∧ ∀ L : List Nat, (∀ y ∈ L, y < w.heap.size ∨ y = p ∨ y = g) → Keeps w' L (Q x)
section
variable {P : Program} {f : FuncId} {R : Ending → World → Prop} {n : Nat} {w0 w00 : World} {L : List Nat} {β : List Nat} {m : SM} {D1 : World → Prop}
theorem Nx.newB2 {w w1 w' : World} {L1 β : List Nat} {hp : List HB} {D1 : World → Prop} {X : Type} {cs1 : X → Nat → List Value} {cs2 : X → List Value} {Q : X → World → Prop} (C : Nx w w1 L1 D1) (H : Mem w1 L1 β hp w') (k1 k2 : Nat) {p g : Nat} {T1 T2 : TypeId} {s1 s2 : List SC} (x : X) (hb1 : β[k1]? = some p) (hb2 : β[k2]? = some g) (hk1 : hp[k1]? = some (.b true T1 s1)) (hk2 : hp[k2]? = some (.b true T2 s2)) (hne : k1 ≠ k2) (hd1 : dens β s1 = cs1 x g) (hd2 : dens β s2 = cs2 x) (hQ : ∀ w, D1 w → Q x w) : NewB2 w T1 T2 cs1 cs2 Q (.returned (.pointer (some ⟨p, 0, none⟩))) w' := by
  have hp' : p ∈ wrN β hp := wrN_mem.2 ⟨k1, _, p, hk1, hb1, rfl, rfl⟩
  have hg : g ∈ wrN β hp := wrN_mem.2 ⟨k2, _, g, hk2, hb2, rfl, rfl⟩
  have old : ∀ y ∈ wrN β hp, w.heap.size ≤ y := fun y hy => by
    rcases Nx.key H y hy with h | h
    · exact C.mem y h
    · have := C.size; omega
  refine ⟨p, g, x, rfl, C.only H, old p hp', old g hg, fun e => hne (H.inj k1 k2 _ _ p hk1 hk2 (by rw [nm_get hb1]; rfl) (by rw [nm_get hb2, e]; rfl)), ?_, ?_, fun L hL => ?_⟩
  · have := H.at k1 hk1
    rw [nm_get hb1, hd1] at this
    exact this
  · have := H.at k2 hk2
    rw [nm_get hb2, hd2] at this
    exact this
  · refine (C.fin H L fun y hy => ?_).imp hQ
    rcases hL y hy with h | h | h
    · exact .inl h
    · rw [h]; exact .inr hp'
    · rw [h]; exact .inr hg
/-- A call that makes two blocks: g comes first, then p. -/
theorem Hs.callB2 {X : Type} (k : Nat) {T1 T2 : TypeId} {cs1 : X → Nat → List Value} {cs2 : X → List Value} (sc1 : X → Nat → List SC) (sc2 : X → List SC) {Q : X → World → Prop} {F : FuncId} {args : Array Value} (C : Nx w00 w0 L D1)
    (hC : ∀ w, Mem w0 L β m.hp w → Calls P F args w (NewB2 w T1 T2 cs1 cs2 Q)) (hd1 : ∀ β x k g, nm β k = g → dens β (sc1 x k) = cs1 x g) (hd2 : ∀ β x, dens β (sc2 x) = cs2 x) (hs1 : ∀ x j k, k < j → (sc1 x k).all (SC.wf j) = true) (hs2 : ∀ x j, (sc2 x).all (SC.wf j) = true)
    (hc : callOf P n β m = some (F, args)) (hrd : rdOf m = []) (hk : Nat.beq m.hp.length k = true)
    (h : ∀ p g x w1 L1, Nx w00 w1 L1 (fun w => Q x w ∧ D1 w) → Hs P f R n w1 L1 ((β ++ [g]) ++ [p]) (m.put (dstOf m) (.c (.p (k + 1) 0)) ((m.hp ++ [.b true T2 (sc2 x)]) ++ [.b true T1 (sc1 x k)]))) : Hs P f R n w0 L β m := by
  have hk := Nat.eq_of_beq_eq_true hk
  refine ⟨fun w H W => ?_⟩
  unfold callOf at hc
  split at hc
  · rename_i o ho
    split at hc
    · rename_i hg
      split at hc
      · rename_i F' args' hp
        injection hc with hc
        injection hc with h1 h2
        subst h1; subst h2
        have hd' : dstOf m = o.dst := by unfold dstOf; rw [ho]
        rw [hd'] at h
        refine Gs.op ho hg ?_
        unfold Oper.wp
        rw [fr_eval, pureOut_run P _ _ hp w]
        refine Calls.mono (hC w H) ?_
        rintro e w' ⟨p, g, x, rfl, O, hpe, hge, hne, hB1, hB2, q⟩
        have hw := SM.wf_hp W
        have hsz := H.only.size
        have HA : Mem w0 L (β ++ [g]) (m.hp ++ [.b true T2 (sc2 x)]) w' := by
          refine H.push (h := .b true T2 (sc2 x)) (by rw [H.len]; exact hw) O (fun y hy => ?_) ?_
          · injection hy with hy; omega
          · show Blk w' g T2 (dens (β ++ [g]) (sc2 x))
            rw [hd2]; exact hB2
        have hwA : (m.hp ++ [HB.b true T2 (sc2 x)]).all (HB.wf (β ++ [g]).length) = true := by
          rw [List.all_append]
          simp only [Bool.and_eq_true]
          refine ⟨List.all_eq_true.2 fun y hy => wf_moreB (by rw [List.length_append, H.len]; exact Nat.le_add_right _ _) (List.all_eq_true.1 hw y hy), ?_⟩
          simp only [List.all_cons, List.all_nil, Bool.and_true]
          exact hs2 x _
        have hnmg : nm ((β ++ [g]) ++ [p]) k = g := by
          rw [nm_app _ _ _ (by rw [List.length_append, H.len, hk]; simp)]
          rw [← hk, ← H.len, nm_last]
        have H' : Mem w0 L ((β ++ [g]) ++ [p]) ((m.hp ++ [.b true T2 (sc2 x)]) ++ [.b true T1 (sc1 x k)]) w' := by
          refine HA.add (h := .b true T1 (sc1 x k)) hwA (fun j h' y ej ly hy => ?_) (fun y hy => ?_) ?_
          · injection hy with hy
            subst hy
            rcases Nat.lt_or_ge j m.hp.length with hj | hj
            · rw [List.getElem?_append_left hj] at ej
              rw [nm_app _ _ _ (by rw [H.len]; exact hj)] at ly
              have := HB.lies_lt (H.lies j h' ej) ly
              omega
            · rw [List.getElem?_append_right hj] at ej
              cases hjj : j - m.hp.length with
              | zero =>
                rw [hjj] at ej
                simp at ej
                subst ej
                have hj2 : j = β.length := by rw [H.len]; omega
                subst hj2
                rw [nm_last] at ly
                injection ly with ly
                exact hne ly.symm
              | succ r => rw [hjj] at ej; simp at ej
          · injection hy with hy
            omega
          · show Blk w' p T1 (dens ((β ++ [g]) ++ [p]) (sc1 x k))
            rw [hd1 _ x k g hnmg]; exact hB1
        have key := Nx.key H'
        have N : Nx w00 w' (wrN ((β ++ [g]) ++ [p]) ((m.hp ++ [.b true T2 (sc2 x)]) ++ [.b true T1 (sc1 x k)])) (fun w => Q x w ∧ D1 w) := by
          refine ⟨fun w3 O3 => C.back w3 (H'.back w3 O3), fun y hy => ?_, Nat.le_trans C.size H'.only.size, fun L' hL' => ?_⟩
          · rcases key y hy with h | h
            · exact C.mem y h
            · have := C.size; omega
          · refine (q _ fun y hy => ?_).and ?_
            · rcases List.mem_append.1 hy with h | h
              · have := hL' y h; have := C.size; exact .inl (by omega)
              · obtain ⟨j, hb, b, h1, h2, h3, h4⟩ := wrN_mem.1 h
                have hjl : j < ((m.hp ++ [HB.b true T2 (sc2 x)]) ++ [HB.b true T1 (sc1 x k)]).length := (List.getElem?_eq_some_iff.1 h1).1
                simp only [List.length_append, List.length_cons, List.length_nil] at hjl
                rcases Nat.lt_or_ge j m.hp.length with hj | hj
                · rw [List.getElem?_append_left (by rw [List.length_append]; omega), List.getElem?_append_left hj] at h1
                  rw [List.getElem?_append_left (by rw [List.length_append, H.len]; omega), List.getElem?_append_left (by rw [H.len]; exact hj)] at h2
                  exact .inl (HB.lies_lt (H.lies j hb h1) (by rw [nm_get h2]; exact h4))
                · have hj2 : j = m.hp.length ∨ j = m.hp.length + 1 := by omega
                  rcases hj2 with rfl | rfl
                  · rw [List.getElem?_append_left (by rw [List.length_append]; simp), List.getElem?_append_right (Nat.le_refl _)] at h1
                    rw [List.getElem?_append_left (by rw [List.length_append, H.len]; simp), List.getElem?_append_right (by rw [H.len]; exact Nat.le_refl _), H.len] at h2
                    simp at h1 h2
                    subst h1; subst h2
                    injection h4 with h4
                    exact .inr (.inr h4.symm)
                  · rw [List.getElem?_append_right (by rw [List.length_append]; simp)] at h1
                    rw [List.getElem?_append_right (by rw [List.length_append, H.len]; simp), List.length_append, H.len] at h2
                    simp at h1 h2
                    subst h1; subst h2
                    injection h4 with h4
                    exact .inr (.inl h4.symm)
            · exact (C.keep L' hL').goN H'.only (fun y hy => .inl (by simp [hy])) (fun y hy => by
                rcases List.mem_append.1 hy with h | h
                · exact .inl (by simp [h])
                · rcases key y h with h | h
                  · exact .inl (by simp [h])
                  · exact .inr h)
        have hnmp : nm ((β ++ [g]) ++ [p]) (k + 1) = p := by
          rw [← hk, ← H.len, show β.length + 1 = (β ++ [g]).length by simp, nm_last]
        have hval : (Value.pointer (some ⟨p, 0, none⟩)) = (SV.c (.p (k + 1) 0)).den ((β ++ [g]) ++ [p]) := by
          show _ = Value.pointer (some ⟨nm ((β ++ [g]) ++ [p]) (k + 1), 0, none⟩)
          rw [hnmp]
        refine ⟨(β ++ [g]) ++ [p], putS o.dst (SV.c (SC.p (k + 1) 0)) m.sl, (m.hp ++ [HB.b true T2 (sc2 x)]) ++ [HB.b true T1 (sc1 x k)], ?_, fun w2 hI => ?_, (h p g x w' _ N).go w' H'.rebase ?_⟩
        · rw [hval, ← fr_app n [g, p] (by rw [H.len]; exact SM.wf_sl W), show β ++ [g, p] = (β ++ [g]) ++ [p] by simp]
          exact fr_put n ((β ++ [g]) ++ [p]) m.sl o.dst (.c (.p (k + 1) 0))
        · rw [hrd]; intro i hi; cases hi
        · simp only [SM.wf, SM.put, Bool.and_eq_true]
          have hlen : ((m.hp ++ [HB.b true T2 (sc2 x)]) ++ [HB.b true T1 (sc1 x k)]).length = m.hp.length + 2 := by simp
          rw [hlen]
          refine ⟨putS_wf (Slots.wf_mono (by omega) (SM.wf_sl W)) (by simp [SV.wf, SC.wf, ← hk, blt_spec]), List.all_eq_true.2 fun y hy => ?_⟩
          rcases List.mem_append.1 hy with hy | hy
          · rcases List.mem_append.1 hy with hy | hy
            · exact wf_moreB (by omega) (List.all_eq_true.1 hw y hy)
            · rw [List.mem_singleton.1 hy]; exact hs2 x _
          · rw [List.mem_singleton.1 hy]; exact hs1 x _ k (by omega)
      · cases hc
    · cases hc
  · cases hc
end
end Go.Proofs.YtnfcdbjckdhieaaGreat
