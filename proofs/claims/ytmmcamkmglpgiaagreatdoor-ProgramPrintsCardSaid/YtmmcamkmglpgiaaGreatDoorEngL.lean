/- The machine: maps of ours, whose entries are known; over any program; no condition. -/
import Derived.Test.YtmmcamkmglpgiaaGreatDoorEngK
import Derived.MapKept
namespace Go.Proofs.YtmmcamkmglpgiaaGreatDoor
set_option linter.all false
set_option maxRecDepth 100000
open Go.RowKit Go.MapKept

section
variable {P : Program} {f : FR} {R : Ending → World → Prop} {n : Nat} {w0 : World} {L : List Nat} {β : List Nat} {m : SM}
variable {κ : Type} [DecidableEq κ]
/-- How a key stands as a value. -/
structure KeyT (P : Program) (T kt et : TypeId) (z : Value) (ke : κ → Value) : Prop where
  hm : P.underlying T = some (.map kt et)
  zero : ∀ w, (zeroValue et).run P w = .ok z w
  d : ∃ d, P.underlying kt = some d ∧ ∀ a, IsKey d (ke a)
  inj : ∀ a b, ke a = ke b → a = b
def MapM (ke : κ → Value) (w : World) (r : Nat) (es : List (κ × Value)) : Prop := ∃ (a : Array MapEntry) (clock : Nat), w.heap[r]? = some (.map a clock) ∧ a.toList.map (fun e => (e.key, e.val)) = es.map (fun p => (ke p.1, p.2)) ∧ Stamped a clock
def lookM (k : κ) : List (κ × Value) → Option Value
  | [] => none
  | p :: es => if p.1 = k then some p.2 else lookM k es
variable {T kt et : TypeId} {z : Value} {ke : κ → Value}
theorem findNow_M {d : TypeDesc} (hk : ∀ a, IsKey d (ke a)) (hi : ∀ a b, ke a = ke b → a = b) (k : κ) : ∀ (l : List MapEntry) (es : List (κ × Value)) (i : Nat), l.map (fun e => (e.key, e.val)) = es.map (fun p => (ke p.1, p.2)) → ∃ o : Option (Nat × Value), Instr.findNow d (ke k) l i = some o ∧ o.map (·.2) = lookM k es
  | [], [], i, _ => ⟨none, rfl, rfl⟩
  | [], _ :: _, i, h => by simp at h
  | _ :: _, [], i, h => by simp at h
  | e :: l, p :: es, i, h => by
    simp only [List.map_cons, List.cons.injEq, Prod.mk.injEq] at h
    obtain ⟨⟨h1, h2⟩, h3⟩ := h
    obtain ⟨r, hr, hiff⟩ := sameNow_of_keys (hk k) (show IsKey d e.key by rw [h1]; exact hk _)
    cases r with
    | true =>
      have e1 : p.1 = k := hi _ _ (by rw [← h1]; exact (hiff.1 rfl).symm)
      exact ⟨some (i, e.val), by simp [Instr.findNow, hr], by simp [lookM, e1, h2]⟩
    | false =>
      have e1 : ¬ p.1 = k := fun he => by
        have := hiff.2 (by rw [h1, he])
        cases this
      obtain ⟨o, ho1, ho2⟩ := findNow_M hk hi k l es (i + 1) h3
      exact ⟨o, by simp [Instr.findNow, hr, ho1], by simp [lookM, e1, ho2]⟩
theorem run_lookM (ht : KeyT P T kt et z ke) {w : World} {r : Nat} {es : List (κ × Value)} (hM : MapM ke w r es) (k : κ) (ok : Bool) : (Instr.lookup T (.map (some r)) (ke k) ok).run P w = .ok (if ok then .tuple #[(lookM k es).getD z, .bool (lookM k es).isSome] else (lookM k es).getD z) w := by
  obtain ⟨d, hd, hk⟩ := ht.d
  obtain ⟨a, clock, hb, he, hst⟩ := hM
  obtain ⟨o, ho1, ho2⟩ := findNow_M hk ht.inj k a.toList es 0 he
  have hck := run_checkKey (w := w) hd (hk k) a.isEmpty 9999
  have hf := run_findKey (w := w) hd ho1
  rw [← ho2]
  cases o with
  | none => simp [Instr.lookup, run_underlying ht.hm, MapKept.run_getObj_map hb, hck, hf, ht.zero w, Result.andThen]
  | some p => simp [Instr.lookup, run_underlying ht.hm, MapKept.run_getObj_map hb, hck, hf, Result.andThen]
theorem lookM_keys {k : κ} (hi : ∀ a b, ke a = ke b → a = b) : ∀ {l : List MapEntry} {es : List (κ × Value)}, l.map (fun e => (e.key, e.val)) = es.map (fun p => (ke p.1, p.2)) → lookM k es = none → ∀ x ∈ l, x.key ≠ ke k
  | [], es, _, _, x, hx => by cases hx
  | e :: l, [], h, _, x, hx => by simp at h
  | e :: l, p :: es, h, hn, x, hx => by
    simp only [List.map_cons, List.cons.injEq, Prod.mk.injEq] at h
    obtain ⟨⟨h1, _⟩, h3⟩ := h
    unfold lookM at hn
    split at hn
    · cases hn
    · rename_i hne
      rcases List.mem_cons.1 hx with rfl | hx
      · intro e2; exact hne (hi _ _ (h1.symm.trans e2))
      · exact lookM_keys hi h3 hn x hx
theorem run_putM (ht : KeyT P T kt et z ke) {w : World} {r : Nat} {es : List (κ × Value)} (hM : MapM ke w r es) (k : κ) (hn : lookM k es = none) (v : Value) : ∃ w', (Instr.mapUpdate T (.map (some r)) (ke k) v).run P w = .ok () w' ∧ MapM ke w' r (es ++ [(k, v)]) ∧ Only [r] w w' := by
  obtain ⟨d, hd, hk⟩ := ht.d
  obtain ⟨a, clock, hb, he, hst⟩ := hM
  obtain ⟨o, ho1, ho2⟩ := findNow_M hk ht.inj k a.toList es 0 he
  rw [hn] at ho2
  have ho : o = none := by cases o with
    | none => rfl
    | some p => cases ho2
  subst ho
  have hck := run_checkKey (w := w) hd (hk k) false 9999
  have hf := run_findKey (w := w) hd ho1
  have hs := heap_set (o' := .map (a.push { key := ke k, val := v, born := clock }) (clock + 1)) hb
  refine ⟨{ w with heap := w.heap.setIfInBounds r (.map (a.push { key := ke k, val := v, born := clock }) (clock + 1)) }, ?_, ⟨_, _, hs.1, by simp [he], stamped_push hst (lookM_keys ht.inj he hn)⟩, ⟨rfl, rfl, rfl, by simp, fun b _ hb => hs.2 b (by simpa using hb)⟩⟩
  simp [Instr.mapUpdate, run_underlying ht.hm, MapKept.run_getObj_map hb, hck, hf, MapKept.run_setObj_map _ hb, Result.andThen]
theorem MapM.st {r : Nat} {es : List (κ × Value)} (w w' : World) (h1 : ∀ a, (some ⟨r, 0, none⟩ : Option Addr) = some a → w'.heap[a.block]? = w.heap[a.block]?) (h2 : w.heap.size ≤ w'.heap.size) (h : MapM ke w r es) : MapM ke w' r es := by
  obtain ⟨a, clock, hb, he, hst⟩ := h
  exact ⟨a, clock, (h1 _ rfl).trans hb, he, hst⟩
theorem MapM.only {r : Nat} {es : List (κ × Value)} {w w' : World} (h : MapM ke w r es) (O : Only L w w') (hr : r ∉ L) : MapM ke w' r es := by
  obtain ⟨a, clock, hb, he, hst⟩ := h
  exact ⟨a, clock, (O.block r (Array.getElem?_eq_some_iff.1 hb).1 hr).trans hb, he, hst⟩
theorem MapM.lt {r : Nat} {es : List (κ × Value)} {w : World} (h : MapM ke w r es) : r < w.heap.size := by
  obtain ⟨a, clock, hb, he, hst⟩ := h
  exact (Array.getElem?_eq_some_iff.1 hb).1
/-- The block of a map. -/
def HB.mp (ke : κ → Value) (r : Nat) (es : List (κ × Value)) : HB := .q true (some ⟨r, 0, none⟩) (fun w => MapM ke w r es) MapM.st
/-- make(map[..]..) -/
theorem Hs.mkM (ke : κ → Value) (hs : semOf n β m = some (valS (Instr.makeMap T none))) (hrd : (rdOf m).all (fun k => Nat.blt k m.hp.length) = true) (h : ∀ r, Hs P f R n w0 L (β ++ [r]) (m.put (dstOf m) (.c (.v (.map (some r)))) (m.hp ++ [HB.mp ke r []]))) : Hs P f R n w0 L β m := by
  refine Hs.opW hs fun w H W => ?_
  have hw := SM.wf_hp W
  refine ⟨[w.heap.size], .c (.v (.map (some w.heap.size))), m.hp ++ [HB.mp ke w.heap.size []], _, rfl, H.push (by rw [H.len]; exact hw) ((Only.refl _ _).alloc _) (fun x hx => ?_) ⟨⟨#[], 0, heap_alloc_new w _, rfl, stamped_empty 0⟩, fun a ha => ?_⟩, ?_, fun k hk b hh => ?_, h _⟩
  · simp only [HB.mp, HB.blk, Option.map_some, Option.some.injEq] at hx; omega
  · injection ha with ha; subst ha; show w.heap.size < (w.heap.push _).size; rw [Array.size_push]; exact Nat.lt_succ_self _
  · simp only [SV.wf, SC.wf, Bool.true_and, Bool.and_eq_true, Nat.ble_eq, List.length_append, List.length_cons, List.length_nil, List.all_append, List.all_cons, List.all_nil, Bool.and_true]
    refine ⟨by omega, List.all_eq_true.2 fun y hy => ?_, rfl⟩
    have h1 := List.all_eq_true.1 hw y hy
    cases y with
    | no => rfl
    | s => rfl
    | q => rfl
    | r _ _ _ => rfl
    | b _ _ cs => exact List.all_eq_true.2 fun z hz => SC.wf_mono (by omega) (List.all_eq_true.1 h1 z hz)
  · rw [List.getElem?_append_left (List.getElem?_eq_some_iff.1 hh).1]; exact hh
/-- A new entry. -/
theorem Hs.putM (k : Nat) (ht : KeyT P T kt et z ke) {r : Nat} {es : List (κ × Value)} (key : κ) (v : Value) (hn : lookM key es = none) (hs : semOf n β m = some (unitS (Instr.mapUpdate T (.map (some r)) (ke key) v))) (hk : m.hp[k]? = some (HB.mp ke r es)) (hrd : (rdOf m).contains k = false)
    (h : Hs P f R n w0 L β (m.put (dstOf m) (.c (.v undef)) (m.hp.set k (HB.mp ke r (es ++ [(key, v)]))))) : Hs P f R n w0 L β m := by
  refine Hs.opU hs fun w H W => ?_
  have hM : MapM ke w r es := H.atQ k (wr := true) (A := some ⟨r, 0, none⟩) (Q := fun w => MapM ke w r es) (st := MapM.st) hk
  obtain ⟨w', hr, hM', O⟩ := run_putM ht hM key hn v
  have hl : (HB.mp ke r (es ++ [(key, v)])).lies w' β (nm β k) := ⟨hM', fun a ha => by injection ha with ha; subst ha; exact hM'.lt⟩
  refine ⟨m.hp.set k (HB.mp ke r (es ++ [(key, v)])), w', hr, H.swap k hk O (fun x hx => by simp only [List.mem_singleton] at hx; subst hx; rfl) rfl hl (fun x hx => .inl hx), ?_, fun j hj b hb => ?_, h⟩
  · simp only [Bool.and_eq_true, Nat.ble_eq, List.length_set]
    exact ⟨Nat.le_refl _, set_wf (SM.wf_hp W) rfl⟩
  · rw [List.getElem?_set, if_neg (fun e => by
      subst e
      simp at hrd
      exact hrd hj)]
    exact hb
theorem Mem.mapM {w : World} {hp : List HB} (H : Mem w0 L β hp w) (k : Nat) {r : Nat} {es : List (κ × Value)} (hk : hp[k]? = some (HB.mp ke r es)) : MapM ke w r es :=
  H.atQ k (wr := true) (A := some ⟨r, 0, none⟩) (Q := fun w => MapM ke w r es) (st := MapM.st) hk
/-- An entry read. -/
theorem Hs.getM (ht : KeyT P T kt et z ke) {r : Nat} {es : List (κ × Value)} (key : κ) (ok : Bool) (v : Value) (hv : (if ok then .tuple #[(lookM key es).getD z, .bool (lookM key es).isSome] else (lookM key es).getD z) = v) (hs : semOf n β m = some (valS (Instr.lookup T (.map (some r)) (ke key) ok))) (hM : ∀ w, Mem w0 L β m.hp w → MapM ke w r es)
    (h : Hs P f R n w0 L β (m.put (dstOf m) (.c (.v v)) m.hp)) : Hs P f R n w0 L β m :=
  Hs.opV (.c (.v v)) hs rfl (fun w H => by rw [run_lookM ht (hM w H) key ok, hv]; rfl) h
/-- An integer as a key. -/
def kI (q : IntKind) (k : Int) : Value := .int q k
theorem kI_inj {q : IntKind} (a b : Int) (h : kI q a = kI q b) : a = b := by injection h
end
end Go.Proofs.YtmmcamkmglpgiaaGreatDoor
