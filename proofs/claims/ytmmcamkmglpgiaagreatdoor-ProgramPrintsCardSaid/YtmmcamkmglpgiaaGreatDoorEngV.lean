/- The machine: an operation that turns the world, whatever it is; bytealg.MakeNoZero; over any program; no condition. -/
import Derived.Test.YtmmcamkmglpgiaaGreatDoorEngU
import Derived.Lib.MakeNoZero
import Derived.Laws.Externs
namespace Go.Proofs.YtmmcamkmglpgiaaGreatDoor
set_option linter.all false

section
variable {P : Program} {f : FR} {R : Ending → World → Prop} {n : Nat} {w0 : World} {L : List Nat} {β : List Nat} {m : SM}
/-- An operation that yields a value and turns the world. -/
theorem Hs.opX {s : Sem Next} (hs : semOf n β m = some s) (h : ∀ w, Mem w0 L β m.hp w → m.wf = true → ∃ (ν : List Nat) (res : SV) (hp' : List HB) (w' : World), s.run P w = .ok (.value (res.den (β ++ ν))) w' ∧ Mem w0 L (β ++ ν) hp' w' ∧ (res.wf hp'.length && (Nat.ble m.hp.length hp'.length && hp'.all (HB.wf hp'.length))) = true ∧ (∀ k ∈ rdOf m, ∀ h, m.hp[k]? = some h → hp'[k]? = some h) ∧ Hs P f R n w0 L (β ++ ν) (m.put (dstOf m) res hp')) : Hs P f R n w0 L β m := by
  obtain ⟨o, ho, hg, he, hd⟩ := semOf_spec hs
  refine ⟨fun w H W => ?_⟩
  rw [hd] at h
  obtain ⟨ν, res, hp', w', h1, H', hw, hrd, hG⟩ := h w H W
  refine Gs.op ho hg ?_
  unfold Oper.wp
  rw [fr_eval, he, h1]
  simp only [Oper.upon_value]
  simp only [Bool.and_eq_true, Nat.ble_eq] at hw
  refine ⟨β ++ ν, putS o.dst res m.sl, hp', ?_, fun w2 hI => IR.app H.len (SM.wf_hp W) hrd hI, hG.go w' H' ?_⟩
  · rw [← fr_app n ν (by rw [H.len]; exact SM.wf_sl W), ← fr_put]
  · simp only [SM.wf, SM.put, Bool.and_eq_true]
    exact ⟨putS_wf (Slots.wf_mono hw.2.1 (SM.wf_sl W)) hw.1, hw.2.2⟩
/-- bytealg.MakeNoZero(q): a new row of whatever bytes. -/
theorem Hs.mkNZ {F : FuncId} {fn : Func} {t E q : Nat} {ps : Array TypeId} (hf : P.funcs[F]? = some fn) (hname : (fn.name == "runtime.NumGoroutine") = false) (hb : fn.body.isNone = true) (hn : Extern.findNext fn = none) (he : Extern.find fn = some (Extern.BytealgMakeNoZero.makeNoZero ps #[t])) (ht : P.underlying t = some (.slice E)) (hq : q ≤ 1000000)
    (hs : semOf n β m = some (callFunc F #[.int .i64 q])) (hrd : (rdOf m).all (fun k => Nat.blt k m.hp.length) = true)
    (h : ∀ g cap vs, vs.length = q * 1 → q ≤ cap → cap ≤ maxLen → Hs P f R n w0 L (β ++ [0]) (m.put (dstOf m) (.c (.v (.slice (some ⟨g, 0, none⟩) q cap))) (m.hp ++ [.s (some ⟨g, 0, none⟩) cap q E 1 vs]))) : Hs P f R n w0 L β m := by
  refine Hs.opX hs fun w H W => ?_
  obtain ⟨cs, hrun, hc1, hc2⟩ := Lib.run_makeNoZero (P := P) w ps t E ht q (by omega)
  have hcm := hc2 (by unfold maxLen; omega)
  have hw := SM.wf_hp W
  have hzl : (cs.toList.take q).length = q * 1 := by rw [List.length_take, Array.length_toList]; omega
  refine ⟨[0], .c (.v (.slice (some ⟨w.heap.size, 0, none⟩) q cs.size)), m.hp ++ [.s (some ⟨w.heap.size, 0, none⟩) cs.size q E 1 (cs.toList.take q)], (w.drew.drew.alloc (.cells cs E)), ?_, ?_, ?_, fun k hk b hh => ?_, h w.heap.size _ _ hzl hc1 hcm⟩
  · rw [run_callFunc_extern hf hname hb hn he, hrun]
    rfl
  · refine H.push (h := .s _ _ _ _ _ _) (by rw [H.len]; exact hw) ?_ (fun y hy => ?_) ?_
    · exact ⟨rfl, rfl, rfl, by simp, fun k hk _ => heap_alloc_old _ _ hk⟩
    · simp only [HB.blk, Option.map_some, Option.some.injEq] at hy
      subst hy
      exact Nat.le_refl _
    · exact ⟨hzl, .inr ⟨w.heap.size, _, cs, rfl, Nat.zero_le _, heap_alloc_new w.drew.drew _, hc1, hcm, by omega, by rw [Nat.mul_one]⟩⟩
  · simp only [SV.wf, SC.wf, Bool.true_and, Bool.and_eq_true, Nat.ble_eq, List.length_append, List.length_cons, List.length_nil, List.all_append, List.all_cons, List.all_nil, Bool.and_true]
    refine ⟨by omega, List.all_eq_true.2 fun y hy => ?_, rfl⟩
    have h1 := List.all_eq_true.1 hw y hy
    cases y with
    | b _ _ cs => exact List.all_eq_true.2 fun u hu => SC.wf_mono (by omega) (List.all_eq_true.1 h1 u hu)
    | _ => rfl
  · have := List.all_eq_true.1 hrd k hk
    rw [List.getElem?_append_left (blt_spec.1 this)]
    exact hh
end
end Go.Proofs.YtmmcamkmglpgiaaGreatDoor
