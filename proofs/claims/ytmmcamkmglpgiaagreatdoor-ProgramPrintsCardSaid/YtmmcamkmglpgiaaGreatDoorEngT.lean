/- The machine: calls that turn a block of ours and answer some thing; calls that are deferred; over any program; no condition. -/
import Derived.Test.YtmmcamkmglpgiaaGreatDoorEngS
namespace Go.Proofs.YtmmcamkmglpgiaaGreatDoor
set_option linter.all false

theorem wrN_set {h h' : HB} (hw : h'.wr = h.wr) (hb : ∀ b, h'.blk b = h.blk b) : ∀ {β : List Nat} {hp : List HB} {k : Nat}, hp[k]? = some h → wrN β (hp.set k h') = wrN β hp
  | [], hp, k, _ => by cases hp <;> simp [wrN] <;> (cases k <;> rfl)
  | b :: β, [], k, hk => by simp at hk
  | b :: β, x :: hp, 0, hk => by simp at hk; subst hk; simp [wrN, hw, hb]
  | b :: β, x :: hp, k + 1, hk => by
    have ih := wrN_set hw hb (β := β) (hp := hp) (k := k) (by simpa using hk)
    simp only [List.set_cons_succ, wrN, ih]
section
variable {P : Program} {f : FuncId} {R : Ending → World → Prop} {n : Nat} {w0 : World} {L : List Nat} {β : List Nat} {m : SM}
/-- A call that turns a block of ours, and leaves the rest as it says. -/
theorem Hs.callD {X : Type} (k : Nat) {g : Nat} {T : TypeId} {cs0 : List SC} (v : X → Value) (cs : X → List SC) {w00 : World} {D0 A F : World → Prop} (A' : X → World → Prop) {Fn : FuncId} {args : Array Value}
    (C : Cx w00 g D0 w0 L (fun w => A w ∧ F w)) (hβ : β[k]? = some g) (hk : m.hp[k]? = some (.b true T cs0))
    (hC : ∀ w, Mem w0 L β m.hp w → Blk w g T (dens β cs0) → Keeps w [g] A → Calls P Fn args w fun e w' => ∃ x, e = .returned (v x) ∧ Only [g] w w' ∧ Blk w' g T (dens β (cs x)) ∧ Turns w w' g A (A' x))
    (hc : callOf P n β m = some (Fn, args)) (hrd : rdOf m = []) (hwf : ∀ x, (cs x).all (SC.wf m.hp.length) = true)
    (h : ∀ x w1 L1, Cx w00 g D0 w1 L1 (fun w => A' x w ∧ F w) → Hs P f R n w1 L1 β (m.put (dstOf m) (.c (.v (v x))) (m.hp.set k (.b true T (cs x))))) : Hs P f R n w0 L β m := by
  have hnm := nm_get hβ
  refine ⟨fun w H W => ?_⟩
  unfold callOf at hc
  split at hc
  · rename_i o ho
    split at hc
    · rename_i hg
      split at hc
      · rename_i F' args' hp
        injection hc with hc
        injection hc with h1 h2
        subst h1; subst h2
        have hd : dstOf m = o.dst := by unfold dstOf; rw [ho]
        rw [hd] at h
        refine Gs.op ho hg ?_
        unfold Oper.wp
        rw [fr_eval, pureOut_run P _ _ hp w]
        refine Calls.mono (hC w H (by have := H.at k hk; rw [hnm] at this; exact this) ((C.keepsAt H).imp fun _ h => h.1)) ?_
        rintro e w' ⟨x, rfl, O, hB, hT⟩
        have H' := H.put hk (by rw [hnm]; exact O) (by rw [hnm]; exact hB : Blk w' (nm β k) T (dens β (cs x)))
        have hwr : wrN β (m.hp.set k (.b true T (cs x))) = wrN β m.hp := wrN_set (h := .b true T cs0) (h' := .b true T (cs x)) rfl (fun _ => rfl) hk
        have hgm : g ∈ wrN β m.hp := wrN_mem.2 ⟨k, _, g, hk, hβ, rfl, rfl⟩
        have C' := C.move H O (Turns.andR O hT) hgm
        rw [← hwr] at C'
        refine ⟨β, putS o.dst (.c (.v (v x))) m.sl, m.hp.set k (.b true T (cs x)), fr_put n β m.sl o.dst (.c (.v (v x))), fun w2 hI => ?_, (h x w' _ C').go w' H'.rebase ?_⟩
        · rw [hrd]; intro i hi; cases hi
        · simp only [SM.wf, SM.put, Bool.and_eq_true]
          refine ⟨?_, ?_⟩
          · rw [List.length_set]; exact putS_wf (SM.wf_sl W) rfl
          · rw [List.length_set]
            refine List.all_eq_true.2 fun y hy => ?_
            rcases List.mem_or_eq_of_mem_set hy with hy | rfl
            · exact List.all_eq_true.1 (SM.wf_hp W) y hy
            · exact hwf x
      · cases hc
    · cases hc
  · cases hc
/-- A call that makes some thing that stays. -/
theorem Hs.callN {X : Type} {g : Nat} (v : X → Value) {w00 : World} {D0 F : World → Prop} (A' : X → World → Prop) {Fn : FuncId} {args : Array Value} (k : Nat) {T : TypeId} {cs0 : List SC}
    (C : Cx w00 g D0 w0 L F) (hβ : β[k]? = some g) (hk : m.hp[k]? = some (.b true T cs0))
    (hC : ∀ w, Mem w0 L β m.hp w → Calls P Fn args w fun e w' => ∃ x, e = .returned (v x) ∧ Only [] w w' ∧ ∀ L, (∀ y ∈ L, y < w.heap.size) → Keeps w' L (A' x))
    (hc : callOf P n β m = some (Fn, args)) (hrd : rdOf m = [])
    (h : ∀ x w1 L1, Cx w00 g D0 w1 L1 (fun w => A' x w ∧ F w) → Hs P f R n w1 L1 β (m.put (dstOf m) (.c (.v (v x))) m.hp)) : Hs P f R n w0 L β m := by
  refine Hs.callE v (fun x w w' => ∀ L, (∀ y ∈ L, y < w.heap.size) → Keeps w' L (A' x)) hC hc hrd fun x w w1 H O q B hL => ?_
  have hgm : g ∈ wrN β m.hp := wrN_mem.2 ⟨k, _, g, hk, hβ, rfl, rfl⟩
  have O1 : Only [g] w w1 := O.mono (by simp)
  exact h x w1 _ (C.move H O1 (fun L hL hg hk => (q L hL).and (hk.go (O1.mono (by simpa using hg)))) hgm)
/-- A call is deferred. -/
theorem Hs.dfr {s : Sem Next} (d : Deferred) (hs : semOf n β m = some s) (h : ∀ w, s.run P w = .ok (.defer d) w) (k : Hs P f R n w0 L β ⟨nextR m, m.todo, putS (dstOf m) (.c (.v undef)) (.dfr (d :: m.sl.ds) m.sl), m.hp⟩) : Hs P f R n w0 L β m := by
  obtain ⟨o, ho, hg, he, hd⟩ := semOf_spec hs
  rw [hd] at k
  refine ⟨fun w H W => ?_⟩
  refine Gs.op ho hg ?_
  unfold Oper.wp
  rw [fr_eval, he, h w]
  refine ⟨β, putS o.dst (.c (.v undef)) (.dfr (d :: m.sl.ds) m.sl), m.hp, ?_, fun w2 hI => hI, k.go w H ?_⟩
  · rw [← fr_put]; rfl
  · simp only [SM.wf, Bool.and_eq_true]
    exact ⟨putS_wf (SM.wf_sl W) rfl, SM.wf_hp W⟩
/-- The end, where one call was deferred. -/
theorem Hs.retD {fn : Func} {t : Tmp} {v : Value} {d : Deferred} {Fd : FuncId} {args : Array Value} {fv : Fn} {cap : Array Value} (hf : P.funcs[f]? = some fn) (hr : fn.results = #[.tmp t]) (hm : (match m.r, m.todo with | .no, .code .ret :: _ => true | _, _ => false) = true) (hv : (evS n m.sl (.tmp t)).den β = v) (hd : m.sl.ds = [d]) (ht : d.target = .fn fv cap) (hi : ∀ w, (invoke d.target d.args).run P w = .ok (.enter Fd args) w)
    (hC : ∀ w, Mem w0 L β m.hp w → CallsD P Fd args .returning w fun e u' w' => u' = .returning ∧ (∃ x, e = .returned x) ∧ R (.returned v) w') : Hs P f R n w0 L β m := by
  refine ⟨fun w H W => ?_⟩
  obtain ⟨r, todo, sl, hp⟩ := m
  dsimp only at hm
  cases r with
  | no =>
    cases todo with
    | nil => cases hm
    | cons it k =>
      cases it with
      | code c =>
        cases c with
        | ret =>
          show Goes P f R (.code .ret :: k) (fr n β sl) w
          refine Goes.retD (v := v) hf hd (fun w2 => ?_) ht (hi w) (hC w H)
          have he : (fr n β sl).tmps.getD t undef = v := (fr_eval1 n β sl (.tmp t)).trans hv
          have hrs : (results fn (fr n β sl).tmps).run P w2 = .ok ((fr n β sl).tmps.getD t undef) w2 := by simp [results, hr]
          rw [hrs, he]
        | _ => cases hm
      | _ => cases hm
  | _ => cases hm
/-- A call begins; it may be one that was deferred. -/
theorem Hs.enterD {fn : Func} {args : Array Value} {w : World} {u : FrameMode} (hf : P.funcs[f]? = some fn) (L β : List Nat) (hp : List HB) (xs : List SV) (H : Mem w L β hp w) (hc : (Nat.ble xs.length fn.ntmps && (fn.body.isSome && (startM fn xs hp).wf)) = true) (ha : args = (xs.map (SV.den β)).toArray) (h : Hs P f R fn.ntmps w L β (startM fn xs hp)) : CallsD P f args u w fun e u' w' => u' = u ∧ R e w' := by
  simp only [Bool.and_eq_true, Nat.ble_eq] at hc
  obtain ⟨h2, h3, h4⟩ := hc
  obtain ⟨c, hb⟩ := Option.isSome_iff_exists.1 h3
  have e : codeOf fn = c := by unfold codeOf; rw [hb]
  have g := h.go w H h4
  unfold Gs startM at g
  dsimp only at g
  rw [e] at g
  refine Goes.enterD hf hb _ ?_ g
  rw [fr_start β xs _ h2, ← ha]
end
end Go.Proofs.YtmmcamkmglpgiaaGreatDoor
