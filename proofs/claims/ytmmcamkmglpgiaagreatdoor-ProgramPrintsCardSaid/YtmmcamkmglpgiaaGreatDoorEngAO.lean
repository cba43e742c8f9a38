/- The machine: maps of ours, entries set anew, taken away, counted; over any program; no condition. -/
import Derived.Test.YtmmcamkmglpgiaaGreatDoorEngL
namespace Go.Proofs.YtmmcamkmglpgiaaGreatDoor
set_option linter.all false
set_option maxRecDepth 100000
open Go.RowKit Go.MapKept

section
variable {κ : Type} [DecidableEq κ]
def setE (k : κ) (v : Value) : List (κ × Value) → List (κ × Value)
  | [] => [(k, v)]
  | p :: es => if p.1 = k then (k, v) :: es else p :: setE k v es
def delE (k : κ) : List (κ × Value) → List (κ × Value)
  | [] => []
  | p :: es => if p.1 = k then es else p :: delE k es
theorem lookM_setE (k j : κ) (v : Value) : ∀ es : List (κ × Value), lookM j (setE k v es) = if k = j then some v else lookM j es
  | [] => rfl
  | p :: es => by
    have ih := lookM_setE k j v es
    unfold setE
    split
    · rename_i h
      unfold lookM
      split
      · rfl
      · rename_i h2
        rw [if_neg (by rw [h]; exact h2)]
    · rename_i h
      unfold lookM
      rw [ih]
      by_cases h1 : p.1 = j
      · rw [if_pos h1, if_pos h1, if_neg (by rw [← h1]; exact fun e => h e.symm)]
      · rw [if_neg h1, if_neg h1]
theorem setE_new {k : κ} (v : Value) : ∀ {es : List (κ × Value)}, lookM k es = none → setE k v es = es ++ [(k, v)]
  | [], _ => rfl
  | p :: es, h => by
    unfold lookM at h
    split at h
    · cases h
    · rename_i h1
      unfold setE
      rw [if_neg h1, setE_new v h]
      rfl
theorem delE_none {k : κ} : ∀ {es : List (κ × Value)}, lookM k es = none → delE k es = es
  | [], _ => rfl
  | p :: es, h => by
    unfold lookM at h
    split at h
    · cases h
    · rename_i h1
      unfold delE
      rw [if_neg h1, delE_none h]
theorem map_modify {α γ : Type} (g : α → γ) (f : α → α) (c : γ) (hc : ∀ e, g (f e) = c) : ∀ (l : List α) (q : Nat), (l.modify q f).map g = (l.map g).set q c
  | [], q => by cases q <;> rfl
  | a :: l, 0 => by simp [hc]
  | a :: l, q + 1 => by simp [map_modify g f c hc l q]
theorem map_erase {α γ : Type} (g : α → γ) : ∀ (l : List α) (q : Nat), (l.eraseIdx q).map g = (l.map g).eraseIdx q
  | [], q => by cases q <;> rfl
  | a :: l, 0 => rfl
  | a :: l, q + 1 => by simp [map_erase g l q]
end
section
variable {P : Program} {f : FR} {R : Ending → World → Prop} {n : Nat} {w0 : World} {L : List Nat} {β : List Nat} {m : SM}
variable {κ : Type} [DecidableEq κ]
variable {T kt et : TypeId} {z : Value} {ke : κ → Value}
theorem findNow_I {d : TypeDesc} (hk : ∀ a, IsKey d (ke a)) (hi : ∀ a b, ke a = ke b → a = b) (k : κ) : ∀ (l : List MapEntry) (es : List (κ × Value)) (i : Nat), l.map (fun e => (e.key, e.val)) = es.map (fun p => (ke p.1, p.2)) → ∃ o : Option (Nat × Value), Instr.findNow d (ke k) l i = some o ∧ (match o with
    | none => lookM k es = none
    | some (j, v) => ∃ q, j = i + q ∧ (∃ e, l[q]? = some e ∧ e.key = ke k) ∧ lookM k es = some v ∧ (∀ v', setE k v' es = es.set q (k, v')) ∧ delE k es = es.eraseIdx q)
  | [], [], i, _ => ⟨none, rfl, rfl⟩
  | [], _ :: _, i, h => by simp at h
  | _ :: _, [], i, h => by simp at h
  | e :: l, p :: es, i, h => by
    simp only [List.map_cons, List.cons.injEq, Prod.mk.injEq] at h
    obtain ⟨⟨h1, h2⟩, h3⟩ := h
    obtain ⟨r, hr, hiff⟩ := sameNow_of_keys (hk k) (show IsKey d e.key by rw [h1]; exact hk _)
    cases r with
    | true =>
      have e1 : p.1 = k := hi _ _ (by rw [← h1]; exact (hiff.1 rfl).symm)
      exact ⟨some (i, e.val), by simp [Instr.findNow, hr], 0, rfl, ⟨e, rfl, by rw [h1, e1]⟩, by simp [lookM, e1, h2], fun v' => by simp [setE, e1], by simp [delE, e1]⟩
    | false =>
      have e1 : ¬ p.1 = k := fun he => by
        have := hiff.2 (by rw [h1, he])
        cases this
      obtain ⟨o, ho1, ho2⟩ := findNow_I hk hi k l es (i + 1) h3
      refine ⟨o, by simp [Instr.findNow, hr, ho1], ?_⟩
      cases o with
      | none => simpa [lookM, e1] using ho2
      | some jv =>
        obtain ⟨j, v⟩ := jv
        obtain ⟨q, h4, h5, h6, h7, h8⟩ := ho2
        exact ⟨q + 1, by omega, by simpa using h5, by simpa [lookM, e1] using h6, fun v' => by simp [setE, e1, h7], by simp [delE, e1, h8]⟩
theorem sameBits_key {d : TypeDesc} {v : Value} (h : IsKey d v) : Instr.sameBits 10000 v v = true := by
  unfold IsKey at h
  split at h
  · simp [Instr.sameBits]
  · simp [Instr.sameBits]
  · rename_i s; unfold Instr.sameBits; rw [show (s == s) = (s.data == s.data) from rfl]; exact beq_self_eq_true _
  · exact h.elim
theorem run_setM (ht : KeyT P T kt et z ke) {w : World} {r : Nat} {es : List (κ × Value)} (hM : MapM ke w r es) (k : κ) (v : Value) : ∃ w', (Instr.mapUpdate T (.map (some r)) (ke k) v).run P w = .ok () w' ∧ MapM ke w' r (setE k v es) ∧ Only [r] w w' := by
  cases hn : lookM k es with
  | none =>
    rw [setE_new v hn]
    exact run_putM ht hM k hn v
  | some v0 =>
    obtain ⟨d, hd, hk⟩ := ht.d
    obtain ⟨a, clock, hb, he, hst⟩ := hM
    obtain ⟨o, ho1, ho2⟩ := findNow_I hk ht.inj k a.toList es 0 he
    cases o with
    | none => rw [hn] at ho2; cases ho2
    | some jv =>
      obtain ⟨j, v1⟩ := jv
      obtain ⟨q, rfl, ⟨e, he1, he2⟩, _, h7, _⟩ := ho2
      rw [Nat.zero_add] at ho1
      have hck := run_checkKey (w := w) hd (hk k) false 9999
      have hf := run_findKey (w := w) hd ho1
      have hs := heap_set (o' := .map (a.modify q fun e => { e with key := ke k, val := v }) clock) hb
      have hkey : ((a[q]?).map (·.key)).getD (ke k) = ke k := by
        rw [← Array.getElem?_toList, he1]; exact he2
      have hkt : (Instr.keyThatStays (ke k) (ke k)).run P w = .ok (ke k) w := by
        unfold Instr.keyThatStays
        rw [if_pos (sameBits_key (hk k))]
        rfl
      refine ⟨{ w with heap := w.heap.setIfInBounds r (.map (a.modify q fun e => { e with key := ke k, val := v }) clock) }, ?_, ⟨_, _, hs.1, ?_, stamped_modify hst q _ (fun _ _ => rfl) (fun e' _ h' => by rw [← Array.getElem?_toList, he1] at h'; injection h' with h'; rw [← h', he2])⟩, ⟨rfl, rfl, rfl, by simp, fun b _ hb => hs.2 b (by simpa using hb)⟩⟩
      · have hset := MapKept.run_setObj_map (P := P) (.map (a.modify q fun e => { e with key := ke k, val := v }) clock) hb
        simp only [Instr.mapUpdate, Sem.run_bind, run_underlying ht.hm, Result.andThen_ok, MapKept.run_getObj_map hb, hck, hf, hkey, hkt]
        exact hset
      · rw [Array.toList_modify, map_modify (fun e : MapEntry => (e.key, e.val)) (fun e => { e with key := ke k, val := v }) (ke k, v) (fun _ => rfl), he, h7, List.map_set]
theorem run_delM (ht : KeyT P T kt et z ke) {w : World} {r : Nat} {es : List (κ × Value)} (hM : MapM ke w r es) (k : κ) (ty : TypeId) : ∃ w', (Builtin.delete_ #[T, kt] ty #[.map (some r), ke k]).run P w = .ok (.tuple #[]) w' ∧ MapM ke w' r (delE k es) ∧ Only [r] w w' := by
  obtain ⟨d, hd, hk⟩ := ht.d
  obtain ⟨a, clock, hb, he, hst⟩ := hM
  obtain ⟨o, ho1, ho2⟩ := findNow_I hk ht.inj k a.toList es 0 he
  have hck := run_checkKey (w := w) hd (hk k) a.isEmpty 9999
  have hf := run_findKey (w := w) hd ho1
  cases o with
  | none =>
    rw [delE_none ho2]
    have hs := heap_set (o' := .map a clock) hb
    have hset := MapKept.run_setObj_map (P := P) (.map a clock) hb
    refine ⟨{ w with heap := w.heap.setIfInBounds r (.map a clock) }, ?_, ⟨_, _, hs.1, he, hst⟩, ⟨rfl, rfl, rfl, by simp, fun b _ hb => hs.2 b (by simpa using hb)⟩⟩
    simp only [Builtin.delete_, Sem.run_bind, run_underlying ht.hm, Result.andThen_ok, MapKept.run_getObj_map hb, hck, hf, List.getElem?_toArray, List.getElem?_cons_zero, List.getElem?_cons_succ]
    rw [hset]
    rfl
  | some jv =>
    obtain ⟨j, v1⟩ := jv
    obtain ⟨q, rfl, _, _, _, h8⟩ := ho2
    rw [Nat.zero_add] at ho1 hf
    have hs := heap_set (o' := .map (a.eraseIdxIfInBounds q) clock) hb
    have hset := MapKept.run_setObj_map (P := P) (.map (a.eraseIdxIfInBounds q) clock) hb
    refine ⟨{ w with heap := w.heap.setIfInBounds r (.map (a.eraseIdxIfInBounds q) clock) }, ?_, ⟨_, _, hs.1, ?_, stamped_erase hst q⟩, ⟨rfl, rfl, rfl, by simp, fun b _ hb => hs.2 b (by simpa using hb)⟩⟩
    · simp only [Builtin.delete_, Sem.run_bind, run_underlying ht.hm, Result.andThen_ok, MapKept.run_getObj_map hb, hck, hf, List.getElem?_toArray, List.getElem?_cons_zero, List.getElem?_cons_succ]
      rw [hset]
      rfl
    · rw [Array.toList_eraseIdxIfInBounds, map_erase, he, h8, map_erase]
theorem run_lenM (hm : P.underlying T = some (.map kt et)) {w : World} {r : Nat} {es : List (κ × Value)} (hM : MapM ke w r es) (ty : TypeId) : (Builtin.len_ #[T] ty #[.map (some r)]).run P w = .ok (.int .i64 es.length) w := by
  obtain ⟨a, clock, hb, he, hst⟩ := hM
  have hl : a.size = es.length := by
    have := congrArg List.length he
    simpa using this
  simp only [Builtin.len_, Sem.run_bind, run_underlying hm, Result.andThen_ok, List.getElem?_toArray, List.getElem?_cons_zero, MapKept.run_getObj_map hb, hl, Sem.run_pure]
  rfl
/-- An entry, new or set anew. -/
theorem Hs.setM (k : Nat) (ht : KeyT P T kt et z ke) {r : Nat} {es : List (κ × Value)} (key : κ) (v : Value) (hs : semOf n β m = some (unitS (Instr.mapUpdate T (.map (some r)) (ke key) v))) (hk : m.hp[k]? = some (HB.mp ke r es)) (hrd : (rdOf m).contains k = false)
    (h : Hs P f R n w0 L β (m.put (dstOf m) (.c (.v undef)) (m.hp.set k (HB.mp ke r (setE key v es))))) : Hs P f R n w0 L β m := by
  refine Hs.opU hs fun w H W => ?_
  have hM : MapM ke w r es := H.atQ k (wr := true) (A := some ⟨r, 0, none⟩) (Q := fun w => MapM ke w r es) (st := MapM.st) hk
  obtain ⟨w', hr, hM', O⟩ := run_setM ht hM key v
  have hl : (HB.mp ke r (setE key v es)).lies w' β (nm β k) := ⟨hM', fun a ha => by injection ha with ha; subst ha; exact hM'.lt⟩
  refine ⟨m.hp.set k (HB.mp ke r (setE key v es)), w', hr, H.swap k hk O (fun x hx => by simp only [List.mem_singleton] at hx; subst hx; rfl) rfl hl (fun x hx => .inl hx), ?_, fun j hj b hb => ?_, h⟩
  · simp only [Bool.and_eq_true, Nat.ble_eq, List.length_set]
    exact ⟨Nat.le_refl _, set_wf (SM.wf_hp W) rfl⟩
  · rw [List.getElem?_set, if_neg (fun e => by
      subst e
      simp at hrd
      exact hrd hj)]
    exact hb
/-- An entry taken away. -/
theorem Hs.delM (k : Nat) (ht : KeyT P T kt et z ke) {r : Nat} {es : List (κ × Value)} (key : κ) {ty : TypeId} (hs : semOf n β m = some (valS (Builtin.delete_ #[T, kt] ty #[.map (some r), ke key]))) (hk : m.hp[k]? = some (HB.mp ke r es)) (hrd : (rdOf m).contains k = false)
    (h : Hs P f R n w0 L β (m.put (dstOf m) (.t []) (m.hp.set k (HB.mp ke r (delE key es))))) : Hs P f R n w0 L β m := by
  refine Hs.opW hs fun w H W => ?_
  have hM : MapM ke w r es := H.atQ k (wr := true) (A := some ⟨r, 0, none⟩) (Q := fun w => MapM ke w r es) (st := MapM.st) hk
  obtain ⟨w', hr, hM', O⟩ := run_delM ht hM key ty
  have hl : (HB.mp ke r (delE key es)).lies w' β (nm β k) := ⟨hM', fun a ha => by injection ha with ha; subst ha; exact hM'.lt⟩
  refine ⟨[], .t [], m.hp.set k (HB.mp ke r (delE key es)), w', hr, by rw [List.append_nil]; exact H.swap k hk O (fun x hx => by simp only [List.mem_singleton] at hx; subst hx; rfl) rfl hl (fun x hx => .inl hx), ?_, fun j hj b hb => ?_, by rw [List.append_nil]; exact h⟩
  · simp only [SV.wf, List.all_nil, Bool.true_and, Bool.and_eq_true, Nat.ble_eq, List.length_set]
    exact ⟨Nat.le_refl _, set_wf (SM.wf_hp W) rfl⟩
  · rw [List.getElem?_set, if_neg (fun e => by
      subst e
      simp at hrd
      exact hrd hj)]
    exact hb
/-- How many entries there are. -/
theorem Hs.lenM (ht : KeyT P T kt et z ke) {r : Nat} {es : List (κ × Value)} {ty : TypeId} (hs : semOf n β m = some (valS (Builtin.len_ #[T] ty #[.map (some r)]))) (hM : ∀ w, Mem w0 L β m.hp w → MapM ke w r es)
    (h : Hs P f R n w0 L β (m.put (dstOf m) (.c (.v (.int .i64 es.length))) m.hp)) : Hs P f R n w0 L β m :=
  Hs.opV (.c (.v (.int .i64 es.length))) hs rfl (fun w H => run_lenM ht.hm (hM w H) ty) h
end
end Go.Proofs.YtmmcamkmglpgiaaGreatDoor
