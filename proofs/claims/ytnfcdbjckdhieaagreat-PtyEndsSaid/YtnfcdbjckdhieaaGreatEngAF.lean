/- The machine: a call that makes a block, in a region that draws; the rest of a division; over any program; no condition. -/
import Derived.Test.YtnfcdbjckdhieaaGreatEngAE
namespace Go.Proofs.YtnfcdbjckdhieaaGreat
set_option linter.all false
set_option maxRecDepth 100000
open Go.RowKit

section
variable {P : Program} {f : FuncId} {R : Ending → World → Prop} {n : Nat} {w0 w00 : World} {L : List Nat} {β : List Nat} {m : SM} {D1 : World → Prop}
/-- A call that makes a block, whatever is still to be read. -/
theorem Hs.callB0 {X : Type} (k : Nat) {T : TypeId} {cs : X → List Value} (sc : X → List SC) {Q : X → World → Prop} {F : FuncId} {args : Array Value} (C : Nx w00 w0 L D1)
    (hC : ∀ w, Mem w0 L β m.hp w → Calls P F args w (NewB w T cs Q)) (hd : ∀ β x, dens β (sc x) = cs x) (hsw : ∀ x j, (sc x).all (SC.wf j) = true)
    (hc : callOf P n β m = some (F, args)) (hk : Nat.beq m.hp.length k = true)
    (h : ∀ g x w1 L1, Nx w00 w1 L1 (fun w => Q x w ∧ D1 w) → Hs P f R n w1 L1 (β ++ [g]) (m.put (dstOf m) (.c (.p k 0)) (m.hp ++ [.b true T (sc x)]))) : Hs P f R n w0 L β m := by
  have hk := Nat.eq_of_beq_eq_true hk
  refine ⟨fun w H W => ?_⟩
  unfold callOf at hc
  split at hc
  · rename_i o ho
    split at hc
    · rename_i hg
      split at hc
      · rename_i F' args' hp
        injection hc with hc
        injection hc with h1 h2
        subst h1; subst h2
        have hd' : dstOf m = o.dst := by unfold dstOf; rw [ho]
        rw [hd'] at h
        refine Gs.op ho hg ?_
        unfold Oper.wp
        rw [fr_eval, pureOut_run P _ _ hp w]
        refine Calls.mono (hC w H) ?_
        rintro e w' ⟨g, x, rfl, O, hge, hB, q⟩
        have hw := SM.wf_hp W
        have hnm : nm (β ++ [g]) β.length = g := nm_last β g
        have H' : Mem w0 L (β ++ [g]) (m.hp ++ [.b true T (sc x)]) w' := by
          refine H.push (h := .b true T (sc x)) (by rw [H.len]; exact hw) O (fun y hy => ?_) ?_
          · injection hy with hy; omega
          · show Blk w' g T (dens (β ++ [g]) (sc x))
            rw [hd]; exact hB
        have key := Nx.key H'
        have N : Nx w00 w' (wrN (β ++ [g]) (m.hp ++ [.b true T (sc x)])) (fun w => Q x w ∧ D1 w) := by
          refine ⟨fun w3 O3 => C.back w3 (H'.back w3 O3), fun y hy => ?_, Nat.le_trans C.size H'.only.size, fun L' hL' => ?_⟩
          · rcases key y hy with h | h
            · exact C.mem y h
            · have := C.size; omega
          · refine (q _ fun y hy => ?_).and ?_
            · rcases List.mem_append.1 hy with h | h
              · have := hL' y h; have := C.size; have := H.only.size; exact .inl (by omega)
              · obtain ⟨k, hb, b, h1, h2, h3, h4⟩ := wrN_mem.1 h
                rcases Nat.lt_or_ge k m.hp.length with hk | hk
                · rw [List.getElem?_append_left hk] at h1
                  rw [List.getElem?_append_left (by rw [H.len]; exact hk)] at h2
                  exact .inl (HB.lies_lt (H.lies k hb h1) (by rw [nm_get h2]; exact h4))
                · rw [List.getElem?_append_right hk] at h1
                  rw [List.getElem?_append_right (by rw [H.len]; exact hk), H.len] at h2
                  cases hkk : k - m.hp.length with
                  | zero =>
                    rw [hkk] at h1 h2
                    simp at h1 h2
                    subst h1; subst h2
                    injection h4 with h4
                    exact .inr h4.symm
                  | succ j => rw [hkk] at h1; simp at h1
            · refine (C.keep L' hL').goN H'.only (fun y hy => .inl (by simp [hy])) (fun y hy => ?_)
              rcases List.mem_append.1 hy with h | h
              · exact .inl (by simp [h])
              · rcases key y h with h | h
                · exact .inl (by simp [h])
                · exact .inr h
        have hval : (Value.pointer (some ⟨g, 0, none⟩)) = (SV.c (.p k 0)).den (β ++ [g]) := by
          show _ = Value.pointer (some ⟨nm (β ++ [g]) k, 0, none⟩)
          rw [← hk, ← H.len, hnm]
        refine ⟨β ++ [g], putS o.dst (SV.c (SC.p k 0)) m.sl, m.hp ++ [HB.b true T (sc x)], ?_, fun w2 hI => ?_, (h g x w' _ N).go w' H'.rebase ?_⟩
        · rw [hval, ← fr_app n [g] (by rw [H.len]; exact SM.wf_sl W)]
          exact fr_put n (β ++ [g]) m.sl o.dst (.c (.p k 0))
        · exact IR.app H.len hw (fun i _ h hh => by rw [List.getElem?_append_left (List.getElem?_eq_some_iff.1 hh).1]; exact hh) hI
        · simp only [SM.wf, SM.put, Bool.and_eq_true]
          refine ⟨?_, ?_⟩
          · rw [List.length_append]; exact putS_wf (Slots.wf_mono (by omega) (SM.wf_sl W)) (by simp [SV.wf, SC.wf, ← hk, blt_spec])
          · rw [List.length_append]
            refine List.all_eq_true.2 fun y hy => ?_
            rcases List.mem_append.1 hy with hy | hy
            · have h1 := List.all_eq_true.1 hw y hy
              cases y with
              | b _ _ cs => exact List.all_eq_true.2 fun u hu => SC.wf_mono (by omega) (List.all_eq_true.1 h1 u hu)
              | _ => rfl
            · rw [List.mem_singleton.1 hy]; exact hsw x _
      · cases hc
    · cases hc
  · cases hc
theorem run_rem {T : TypeId} {a b : Int} (hb : b ≠ 0) (w : World) : (binOp .rem T (.int .i64 a) (.int .i64 b)).run P w = .ok (.int .i64 (a.tmod b)) w := by
  show (Op.intDiv .rem .i64 a b).run P w = _
  unfold Op.intDiv
  rw [if_neg hb]
  rfl
end
end Go.Proofs.YtnfcdbjckdhieaaGreat
