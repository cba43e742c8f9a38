/- The machine: a call that makes a row of ours, and things that stay; over any program; no condition. -/
import Derived.Test.YtmmcamkmglpgiaaGreatDoorEngY
namespace Go.Proofs.YtmmcamkmglpgiaaGreatDoor
set_option linter.all false

section
variable {P : Program} {f : FR} {R : Ending → World → Prop} {n : Nat} {w0 w00 : World} {L : List Nat} {β : List Nat} {m : SM} {D1 : World → Prop} {α : Type} {cf : α → List Value} {E size : Nat}
/-- A call that makes a row of ours, and things that stay. -/
theorem Hs.callSM {X : Type} (v : Option Addr → Nat → Value) (l : X → List α) (nl : Nat) (Q : X → World → Prop) {F : FuncId} {args : Array Value} (C : Nx w00 w0 L D1)
    (hC : ∀ w, Mem w0 L β m.hp w → Calls P F args w fun e w' => ∃ A' c' x, e = .returned (v A' c') ∧ Only [] w w' ∧ (l x).length = nl ∧ OwnX cf E size w' w.heap.size (.slice A' nl c') (l x) ∧ ∀ L : List Nat, (∀ y ∈ L, y < w.heap.size ∨ some y = A'.map (·.block)) → Keeps w' L (Q x))
    (hc : callOf P n β m = some (F, args)) (hrd : rdOf m = [])
    (h : ∀ A' c' x w1 L1, (l x).length = nl → Nx w00 w1 L1 (fun w => Q x w ∧ D1 w) → Hs P f R n w1 L1 (β ++ [0]) (m.put (dstOf m) (.c (.v (v A' c'))) (m.hp ++ [.s A' c' nl E size ((l x).flatMap cf)]))) : Hs P f R n w0 L β m := by
  refine ⟨fun w H W => ?_⟩
  unfold callOf at hc
  split at hc
  · rename_i o ho
    split at hc
    · rename_i hg
      split at hc
      · rename_i F' args' hp
        injection hc with hc
        injection hc with h1 h2
        subst h1; subst h2
        have hd : dstOf m = o.dst := by unfold dstOf; rw [ho]
        rw [hd] at h
        refine Gs.op ho hg ?_
        unfold Oper.wp
        rw [fr_eval, pureOut_run P _ _ hp w]
        refine Calls.mono (hC w H) ?_
        rintro e w' ⟨A', c', x, rfl, O, hl, hO, q⟩
        have hw := SM.wf_hp W
        have hOl := hO
        obtain ⟨A1, cap1, e1, hc1, hc2, _, hA⟩ := hO.form
        injection e1 with e1 e2 e3
        subst e1; subst e3
        have H' : Mem w0 L (β ++ [0]) (m.hp ++ [.s A' c' nl E size ((l x).flatMap cf)]) w' := by
          refine H.push (h := .s A' c' nl E size ((l x).flatMap cf)) (by rw [H.len]; exact hw) O (fun y hy => ?_) ?_
          · simp only [HB.blk, Option.map_eq_some_iff] at hy
            obtain ⟨a, ha, rfl⟩ := hy
            exact (hA a ha).1
          · have h5 := OwnX.mono hOl (Nat.zero_le _)
            unfold OwnX at h5
            rw [hl] at h5
            exact h5
        have key := Nx.key H'
        have N : Nx w00 w' (wrN (β ++ [0]) (m.hp ++ [.s A' c' nl E size ((l x).flatMap cf)])) (fun w => Q x w ∧ D1 w) := by
          refine ⟨fun w3 O3 => C.back w3 (H'.back w3 O3), fun y hy => ?_, Nat.le_trans C.size H'.only.size, fun L' hL' => ?_⟩
          · rcases key y hy with h | h
            · exact C.mem y h
            · have := C.size; omega
          · refine (q _ fun y hy => ?_).and ?_
            · rcases List.mem_append.1 hy with h | h
              · have := hL' y h; have := C.size; have := H.only.size; exact .inl (by omega)
              · obtain ⟨k, hb, b, h1, h2, h3, h4⟩ := wrN_mem.1 h
                rcases Nat.lt_or_ge k m.hp.length with hk | hk
                · rw [List.getElem?_append_left hk] at h1
                  rw [List.getElem?_append_left (by rw [H.len]; exact hk)] at h2
                  exact .inl (HB.lies_lt (H.lies k hb h1) (by rw [nm_get h2]; exact h4))
                · rw [List.getElem?_append_right hk] at h1
                  cases hkk : k - m.hp.length with
                  | zero =>
                    rw [hkk] at h1
                    simp at h1
                    subst h1
                    exact .inr h4.symm
                  | succ j => rw [hkk] at h1; simp at h1
            · refine (C.keep L' hL').goN H'.only (fun y hy => .inl (by simp [hy])) (fun y hy => ?_)
              rcases List.mem_append.1 hy with h | h
              · exact .inl (by simp [h])
              · rcases key y h with h | h
                · exact .inl (by simp [h])
                · exact .inr h
        refine ⟨β ++ [0], putS o.dst (.c (.v (v A' c'))) m.sl, m.hp ++ [.s A' c' nl E size ((l x).flatMap cf)], ?_, fun w2 hI => ?_, (h A' c' x w' _ hl N).go w' H'.rebase ?_⟩
        · rw [← fr_app n [0] (by rw [H.len]; exact SM.wf_sl W)]
          exact fr_put n (β ++ [0]) m.sl o.dst (.c (.v (v A' c')))
        · rw [hrd]; intro i hi; cases hi
        · simp only [SM.wf, SM.put, Bool.and_eq_true]
          refine ⟨?_, ?_⟩
          · rw [List.length_append]; exact putS_wf (Slots.wf_mono (by omega) (SM.wf_sl W)) rfl
          · rw [List.length_append]
            refine List.all_eq_true.2 fun y hy => ?_
            rcases List.mem_append.1 hy with hy | hy
            · have h1 := List.all_eq_true.1 hw y hy
              cases y with
              | b _ _ cs => exact List.all_eq_true.2 fun u hu => SC.wf_mono (by omega) (List.all_eq_true.1 h1 u hu)
              | _ => rfl
            · rw [List.mem_singleton.1 hy]; rfl
      · cases hc
    · cases hc
  · cases hc
end
end Go.Proofs.YtmmcamkmglpgiaaGreatDoor
