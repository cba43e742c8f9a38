/- The machine: calls that turn a block that the call itself has made; a slice of ours that is read from here on; bytes as a string; over any program; no condition. -/
import Derived.Test.YtmmcamkmglpgiaaGreatDoorEngAB
import Derived.Test.YtmmcamkmglpgiaaGreatDoorEngM
import Derived.Test.YtmmcamkmglpgiaaGreatDoorEngZ
import Derived.Test.YtmmcamkmglpgiaaGreatDoorU8
import Derived.Laws.IdiomStrings
namespace Go.Proofs.YtmmcamkmglpgiaaGreatDoor
set_option linter.all false
set_option maxRecDepth 100000
open Go.RowKit

section
variable {w w0 w1 w2 w' : World} {L L1 L' β : List Nat} {hp : List HB} {Q D1 D2 : World → Prop} {g : Nat}
theorem Nx.moveD (C : Nx w w1 L1 D1) (H : Mem w1 L1 β hp w2) (O : Only [g] w2 w') (T : Turns w2 w' g D1 D2) (hg : g ∈ wrN β hp) : Nx w w' (wrN β hp) D2 := by
  have hO := H.only
  have key := Nx.key H
  refine ⟨fun w3 O3 => C.back w3 ?_, fun x hx => ?_, Nat.le_trans C.size (Nat.le_trans hO.size O.size), fun L hL => ?_⟩
  · exact (hO.trans O (fun x hx => by rw [List.mem_singleton.1 hx]; exact key g hg)).trans O3 key
  · rcases key x hx with h | h
    · exact C.mem x h
    · have := C.size; omega
  · refine T _ (fun x hx => ?_) (by simp [hg]) ?_
    · rcases List.mem_append.1 hx with h | h
      · have := hL x h; have := C.size; have := hO.size; omega
      · exact H.wrN_lt x h
    · exact (C.keep L hL).goN hO (fun x hx => .inl (by simp [hx])) (fun x hx => by
        rcases List.mem_append.1 hx with h | h
        · exact .inl (by simp [h])
        · rcases key x h with h | h
          · exact .inl (by simp [h])
          · exact .inr h)
end
section
variable {P : Program} {f : FR} {R : Ending → World → Prop} {n : Nat} {w0 w00 : World} {L : List Nat} {β : List Nat} {m : SM} {D1 : World → Prop}
/-- A call that turns a block that the call itself has made. -/
theorem Hs.callND {X : Type} (k : Nat) {g : Nat} {T : TypeId} {cs0 : List SC} (v : X → Value) (cs : X → List SC) {A F : World → Prop} (A' : X → World → Prop) {Fn : FuncId} {args : Array Value}
    (C : Nx w00 w0 L (fun w => A w ∧ F w)) (hβ : β[k]? = some g) (hk : m.hp[k]? = some (.b true T cs0))
    (hC : ∀ w, Mem w0 L β m.hp w → Blk w g T (dens β cs0) → Keeps w [g] A → Calls P Fn args w fun e w' => ∃ x, e = .returned (v x) ∧ Only [g] w w' ∧ Blk w' g T (dens β (cs x)) ∧ Turns w w' g A (A' x))
    (hc : callOf P n β m = some (Fn, args)) (hrd : rdOf m = []) (hwf : ∀ x, (cs x).all (SC.wf m.hp.length) = true)
    (h : ∀ x w1 L1, Nx w00 w1 L1 (fun w => A' x w ∧ F w) → Hs P f R n w1 L1 β (m.put (dstOf m) (.c (.v (v x))) (m.hp.set k (.b true T (cs x))))) : Hs P f R n w0 L β m := by
  have hnm := nm_get hβ
  refine ⟨fun w H W => ?_⟩
  unfold callOf at hc
  split at hc
  · rename_i o ho
    split at hc
    · rename_i hg
      split at hc
      · rename_i F' args' hp
        injection hc with hc
        injection hc with h1 h2
        subst h1; subst h2
        have hd : dstOf m = o.dst := by unfold dstOf; rw [ho]
        rw [hd] at h
        refine Gs.op ho hg ?_
        unfold Oper.wp
        rw [fr_eval, pureOut_run P _ _ hp w]
        have hgm : g ∈ wrN β m.hp := wrN_mem.2 ⟨k, _, g, hk, hβ, rfl, rfl⟩
        refine Calls.mono (hC w H (by have := H.at k hk; rw [hnm] at this; exact this) (((C.keeps.step H).mono fun x hx => by rw [List.mem_singleton.1 hx]; exact hgm).imp fun _ h => h.1)) ?_
        rintro e w' ⟨x, rfl, O, hB, hT⟩
        have H' := H.put hk (by rw [hnm]; exact O) (by rw [hnm]; exact hB : Blk w' (nm β k) T (dens β (cs x)))
        have hwr : wrN β (m.hp.set k (.b true T (cs x))) = wrN β m.hp := wrN_set (h := .b true T cs0) (h' := .b true T (cs x)) rfl (fun _ => rfl) hk
        have C' := C.moveD H O (Turns.andR O hT) hgm
        rw [← hwr] at C'
        refine ⟨β, putS o.dst (.c (.v (v x))) m.sl, m.hp.set k (.b true T (cs x)), fr_put n β m.sl o.dst (.c (.v (v x))), fun w2 hI => ?_, (h x w' _ C').go w' H'.rebase ?_⟩
        · rw [hrd]; intro i hi; cases hi
        · simp only [SM.wf, SM.put, Bool.and_eq_true]
          refine ⟨?_, ?_⟩
          · rw [List.length_set]; exact putS_wf (SM.wf_sl W) rfl
          · rw [List.length_set]
            refine List.all_eq_true.2 fun y hy => ?_
            rcases List.mem_or_eq_of_mem_set hy with hy | rfl
            · exact List.all_eq_true.1 (SM.wf_hp W) y hy
            · exact hwf x
      · cases hc
    · cases hc
  · cases hc
/-- A slice of ours is read from here on. -/
theorem Hs.freezeN {α : Type} {cf : α → List Value} {size : Nat} (k : Nat) {A : Option Addr} {cap nl : Nat} {l : List α} {E : Nat} (C : Nx w00 w0 L D1) (hl : l.length = nl) (ek : m.hp[k]? = some (.s A cap nl E size (l.flatMap cf))) (hr : (match m.r with | .no => true | .lst .. => true | .lstN .. => true | _ => false) = true)
    (h : ∀ w1 L1, Nx w00 w1 L1 (fun w => (RdX cf w A l ∧ l.length ≤ cap ∧ cap ≤ maxLen) ∧ D1 w) → Hs P f R n w1 L1 β ⟨m.r, m.todo, m.sl, m.hp.set k .no⟩) : Hs P f R n w0 L β m := by
  refine ⟨fun w H W => ?_⟩
  have H' : Mem w0 L β (m.hp.set k .no) w := H.turn (Only.refl [] w) (by simp) (by simp) fun j h' hj => by
    rw [List.getElem?_set] at hj
    split at hj
    · split at hj
      · injection hj with hj; exact .inl hj.symm
      · cases hj
    · exact .inr (.inl ⟨hj, by simp⟩)
  have key : ∀ x ∈ wrN β (m.hp.set k .no), x ∈ L ∨ w0.heap.size ≤ x := Nx.key H'
  have hown := C.ownX H k hl ek
  have hA : ∀ a, A = some a → ∀ L' : List Nat, (∀ x ∈ L', x < w00.heap.size) → a.block ∉ L' ++ wrN β (m.hp.set k .no) := fun a ha L' hL' hx => by
    rcases List.mem_append.1 hx with hx | hx
    · subst ha
      rcases H.own k _ a.block ek rfl rfl with h1 | h1
      · have := C.mem _ h1
        have := hL' _ hx
        omega
      · have := C.size
        have := hL' _ hx
        omega
    · obtain ⟨j, hb, b, h1, h2, h3, h4⟩ := wrN_mem.1 hx
      rw [List.getElem?_set] at h1
      split at h1
      · split at h1
        · injection h1 with h1; subst h1; cases h3
        · cases h1
      · rename_i hjk
        exact hjk (H.inj k j _ _ a.block ek h1 (by subst ha; rfl) (by rw [nm_get h2]; exact h4))
  have hcap := H.capS k hl ek
  have C' : Nx w00 w (wrN β (m.hp.set k .no)) (fun w => (RdX cf w A l ∧ l.length ≤ cap ∧ cap ≤ maxLen) ∧ D1 w) := by
    refine ⟨fun w3 O3 => C.back w3 (H'.back w3 O3), fun x hx => ?_, Nat.le_trans C.size H.only.size, fun L' hL' => ?_⟩
    · rcases key x hx with h | h
      · exact C.mem x h
      · have := C.size; omega
    · refine Keeps.and ?_ ((C.keep L' hL').goN H.only (fun x hx => .inl (by simp [hx])) (fun x hx => ?_))
      · refine (rdX_keeps (H.rdX k hl ek) fun a ha => hA a ha L' hL').and fun _ _ => ⟨by rw [hl]; exact hcap.1, hcap.2⟩
      · rcases List.mem_append.1 hx with h | h
        · exact .inl (by simp [h])
        · rcases key x h with h | h
          · exact .inl (by simp [h])
          · exact .inr h
  have g2 := (h w _ C').go w H'.rebase (by
    simp only [SM.wf, Bool.and_eq_true] at W ⊢
    rw [List.length_set]
    refine ⟨W.1, List.all_eq_true.2 fun y hy => ?_⟩
    rcases List.mem_or_eq_of_mem_set hy with hy | rfl
    · exact List.all_eq_true.1 W.2 y hy
    · rfl)
  obtain ⟨r, todo, sl, hp⟩ := m
  cases r with
  | no => exact g2
  | lst => exact g2
  | lstN => exact g2
  | _ => cases hr
/-- Bytes as a string. -/
theorem Hs.strB (bs : List UInt8) {src dst e : TypeId} (hT : P.underlying src = some (.slice e)) (he : P.underlying e = some (.int .u8)) (hd : P.underlying dst = some .string) {A : Option Addr} {nl c : Nat} (hnl : bs.length = nl) (h0 : 0 < nl) (hs : semOf n β m = some (valS (convert src dst (.slice A nl c)))) (hr : ∀ w, Mem w0 L β m.hp w → RdX cu8 w A (bs.map fun b => (b.toNat : Int)))
    (k : Hs P f R n w0 L β (m.put (dstOf m) (.c (.v (.string ⟨bs.toArray⟩))) m.hp)) : Hs P f R n w0 L β m := by
  subst hnl
  refine Hs.opV _ hs rfl (fun w H => ?_) k
  obtain ⟨b, off, rfl, _, _⟩ := hr w H (by simpa using h0)
  exact run_convert_bytes_back w src dst e ⟨b, off, none⟩ c bs hT he hd fun j hj => by
    have h1 := u8_cell (hr w H) (i := j) (x := (bs[j].toNat : Int)) (by simp [List.getElem?_map, List.getElem?_eq_getElem hj])
    rw [Nat.mul_one] at h1
    rw [Addr.add_lit]
    exact h1
end
end Go.Proofs.YtmmcamkmglpgiaaGreatDoor
