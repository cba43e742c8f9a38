/- The machine: a range over a function: the statement, its rounds, the end of a function that has one; over any program; no condition. -/
import Derived.RangeFuncRecord
import Derived.RangeFuncSeq
import Derived.RangeFuncLeaves
import Derived.Test.YtmmcamkmglpgiaaGreatDoorEngAR
namespace Go.Proofs.YtmmcamkmglpgiaaGreatDoor
set_option linter.all false
set_option maxRecDepth 100000
open Go.RowKit

theorem only_put (w : World) (l : Nat) (o : Obj) : Only [l] w (w.putObj l o) :=
  ⟨rfl, rfl, rfl, by simp, fun k _ hk => World.putObj_heap_other (fun e => hk (by simp [e]))⟩
section
variable {P : Program} {f : FuncId} {R : Ending → World → Prop} {n : Nat} {w0 : World} {L : List Nat} {β : List Nat} {m : SM}
/-- What is left to be done. -/
def atTodo (m : SM) (t : List Item) : Prop := m.r = .no ∧ m.todo = t
/-- A round is over. -/
theorem Hs.rEnd {l : Nat} (ht : atTodo m []) (h : ∀ w, Mem w0 L β m.hp w → ∃ r : Loop, w.heap[l]? = some (.loop r) ∧ R (.returned (.bool true)) (w.putObj l (.loop { r with state := .ready, pending := none }))) : Hs P ⟨f, some l⟩ R n w0 L β m := by
  obtain ⟨r, todo, sl, hp⟩ := m
  obtain ⟨h1, h2⟩ := ht
  dsimp only at h1 h2; subst h1; subst h2
  refine ⟨fun w H W => ?_⟩
  obtain ⟨rc, h3, h4⟩ := h w H
  exact Goes.rEnd (run_endRound none h3) h4
/-- A round that returns. -/
theorem Hs.rRet {l : Nat} {k : List Item} (ht : atTodo m (.code .ret :: k)) (h : ∀ w, Mem w0 L β m.hp w → ∃ r : Loop, w.heap[l]? = some (.loop r) ∧ R (.returned (.bool false)) (w.putObj l (.loop { r with state := .done, pending := some .ret }))) : Hs P ⟨f, some l⟩ R n w0 L β m := by
  obtain ⟨r, todo, sl, hp⟩ := m
  obtain ⟨h1, h2⟩ := ht
  dsimp only at h1 h2; subst h1; subst h2
  refine ⟨fun w H W => ?_⟩
  obtain ⟨rc, h3, h4⟩ := h w H
  exact Goes.rRet (run_endRound (some .ret) h3) h4
theorem Mem.rebaseL {w w' : World} {l : Nat} (H : Mem w0 L β m.hp w) (O : Only [l] w w') (hro : roOk m.hp = true) (h1 : l ∉ L) (h2 : l < w0.heap.size) : Mem w' (wrN β m.hp) β m.hp w' := by
  refine Mem.rebaseF H O fun k h x hk hx hm => ?_
  obtain rfl := List.mem_singleton.1 hm
  have hkl := (List.getElem?_eq_some_iff.1 hk).1
  rw [← H.len] at hkl
  have hb : β[k]? = some (nm β k) := by rw [nm, List.getD, List.getElem?_eq_getElem hkl]; rfl
  rcases ((H.bks hro).2 x (bks_mem hk hb hx)).1 with h3 | h3
  · exact h1 h3
  · omega
theorem wrN_in {w : World} (H : Mem w0 L β m.hp w) : ∀ x ∈ wrN β m.hp, x ∈ L ∨ w0.heap.size ≤ x := fun x hx => by
  obtain ⟨k, h, b, h1, h2, h3, h4⟩ := wrN_mem.1 hx
  exact H.own k h x h1 h3 (by rw [nm_get h2]; exact h4)
/-- A round begins. -/
theorem Hs.rBegin {l : Nat} {k : List Item} {r : Loop} (ht : atTodo m (.beginRound :: k)) (hro : roOk m.hp = true) (hl : w0.heap[l]? = some (.loop r)) (hr : r.state = .ready) (hlL : l ∉ L)
    (h : ∀ w w1, Mem w0 L β m.hp w → w1 = w.putObj l (.loop { r with state := .busy }) → w1.heap[l]? = some (.loop { r with state := .busy }) → Hs P ⟨f, some l⟩ R n w1 (wrN β m.hp) β ⟨.no, k, m.sl, m.hp⟩) : Hs P ⟨f, some l⟩ R n w0 L β m := by
  obtain ⟨rr, todo, sl, hp⟩ := m
  obtain ⟨h1, h2⟩ := ht
  dsimp only at h1 h2; subst h1; subst h2
  have hlt := (Array.getElem?_eq_some_iff.1 hl).1
  refine ⟨fun w H W => ?_⟩
  have hl2 : w.heap[l]? = some (.loop r) := (H.only.block l hlt hlL).trans hl
  have hb := run_beginRound (P := P) hl2 hr
  have H' := Mem.rebaseL (m := ⟨.no, k, sl, hp⟩) H (only_put w l (.loop { r with state := .busy })) hro hlL hlt
  refine Goes.rBegin hb ?_
  exact (h w _ H rfl (World.putObj_heap_same (Array.getElem?_eq_some_iff.1 hl2).1)).go _ H' W
/-- A round, as the iterator meets it. -/
theorem round_of {l nn : Nat} {tmps : Array Value} {assign body : Code} {w : World} (sl : Slots) (hp : List HB) (hfr : fr n β sl = ⟨tmps, []⟩) (ho : (codeOk assign && codeOk body) = true) (H : Mem w L β hp w) (hw : (sl.wf hp.length && hp.all (HB.wf hp.length)) = true)
    (h : Hs P ⟨f, some l⟩ R n w L β ⟨.no, [.code assign, .beginRound, .code body], sl, hp⟩) : RoundIn Fence.wide nn P l f tmps assign body w R := by
  refine roundIn_of_goes ho ?_
  rw [← hfr]
  exact h.go w H hw
end
section
variable {P : Program} {f : FuncId} {R : Ending → World → Prop} {n : Nat} {w0 : World} {L : List Nat} {β : List Nat} {m : SM}
/-- Behind the body of a function that has ranged over a function: what its rounds have deferred (nothing), then the end. -/
theorem Goes.retC {fn : Func} {v : Value} {a : Act} {w : World} {r : Nat} (todo : List Item) (ht : todo = [] ∨ ∃ k, todo = .code .ret :: k) (hf : P.funcs[f]? = some fn) (ha : a.defers = [⟨.collected r, #[]⟩]) (hd : w.heap[r]? = some (.deferred (some []))) (hr : (results fn a.tmps).run P (w.putObj r (.deferred none)) = .ok v (w.putObj r (.deferred none))) (hR : R (.returned v) (w.putObj r (.deferred none))) : Goes P f R todo a w := fun kd cs => by
  have h0 : Go.step P (lone ((fB kd f).atR a todo) cs w) = .next (lone { (fB kd f).atR a todo with mode := .returning } cs w) := by
    rcases ht with rfl | ⟨k, rfl⟩
    · exact stepR_end rfl
    · exact stepR_ret rfl
  have h1 := step_collected (P := P) (fr := { (fB kd f).atR a todo with mode := .returning }) (cs := cs) (by intro h; cases h) (show ({ (fB kd f).atR a todo with mode := .returning } : Frame).defers = ⟨.collected r, #[]⟩ :: [] from ha) rfl (run_takeDeferred hd)
  exact ⟨.returned v, _, _, hR, (Steps.head h0 (.one h1) : Steps P _ _), rfl, rfl, rfl, rfl, fn, hf, hr⟩
theorem Hs.retC {fn : Func} {v : Value} {r : Nat} (hf : P.funcs[f]? = some fn) (hds : m.sl.ds = [⟨.collected r, #[]⟩]) (ht : atTodo m [] ∨ ∃ k, atTodo m (.code .ret :: k)) (hr : retOf P fn n β ⟨.no, [], .dfr [] m.sl, m.hp⟩ = some v) (hro : roOk m.hp = true) (hrL : r ∉ L) (hd : w0.heap[r]? = some (.deferred (some [])))
    (h : ∀ w w', Mem w0 L β m.hp w → w' = w.putObj r (.deferred none) → Mem w' (wrN β m.hp) β m.hp w' → R (.returned v) w') : Hs P f R n w0 L β m := by
  have hlt := (Array.getElem?_eq_some_iff.1 hd).1
  refine ⟨fun w H W => ?_⟩
  obtain ⟨rr, todo, sl, hp⟩ := m
  have hno : rr = .no := by rcases ht with h | ⟨k, h⟩ <;> exact h.1
  subst hno
  have htd : todo = [] ∨ ∃ k, todo = .code .ret :: k := by
    rcases ht with h | ⟨k, h⟩
    · exact .inl h.2
    · exact .inr ⟨k, h.2⟩
  have hd2 : w.heap[r]? = some (.deferred (some [])) := (H.only.block r hlt hrL).trans hd
  have H' : Mem (w.putObj r (.deferred none)) (wrN β hp) β hp (w.putObj r (.deferred none)) := Mem.rebaseL (m := ⟨.no, todo, sl, hp⟩) H (only_put w r _) hro hrL hlt
  refine Goes.retC todo htd hf hds hd2 ?_ (h w _ H rfl H')
  have hat : ∀ i, (Slots.dfr [] sl).at i = sl.at i := fun i => rfl
  have hfr : (fr n β (.dfr [] sl)).tmps = (fr n β sl).tmps := rfl
  have key : ∀ w, Mem w (wrN β hp) β hp w → (results fn (fr n β sl).tmps).run P w = .ok v w := fun w H' => by
    rw [← hfr]
    unfold retOf at hr
    dsimp only at hr
    split at hr
    · have go : ∀ vs, retL P n ⟨.no, [], .dfr [] sl, hp⟩ fn.results.toList = some vs → (results fn (fr n β (.dfr [] sl)).tmps).run P w = .ok (if h : (vs.map (TV.den β)).toArray.size = 1 then (vs.map (TV.den β)).toArray[0] else .tuple (vs.map (TV.den β)).toArray) w := fun vs hvs => by
        unfold results
        rw [Array.mapM_eq_mapM_toList]
        have := retL_run (P := P) (m := ⟨.no, [], .dfr [] sl, hp⟩) H' fn.results.toList vs hvs
        simp only [Sem.run_bind, Sem.run_map, Sem.run_pure]
        exact Eq.trans (congrArg (fun r => Result.andThen (Result.andThen r (fun (a : List Value) w' => Result.ok a.toArray w')) (fun (a : Array Value) w' => Result.ok (if h : a.size = 1 then a[0] else Value.tuple a) w')) this) rfl
      split at hr
      · rename_i v1 hvs
        injection hr with hr; subst hr
        rw [go _ hvs]
        simp
      · rename_i vs hne hvs
        injection hr with hr; subst hr
        rw [go _ hvs, dif_neg]
        simp only [List.size_toArray, List.length_map]
        intro h1
        obtain ⟨x, rfl⟩ := List.length_eq_one_iff.1 h1
        exact hne x rfl
      · cases hr
    · cases hr
  exact key _ H'
/-- The record of a loop. -/
def recL (f : FuncId) (tmps : Array Value) (ps : Array Tmp) (assign body : Code) (r : Nat) (st : LoopState) (pe : Option Code) : Loop := { state := st, pending := pe, fn := f, tmps := tmps, params := ps, assign, body, defers := r }
/-- The statement. Jd: all have come; Jx: a round has returned. -/
theorem Hs.rangeF {g : Operand} {ps : Array Tmp} {assign body : Code} {k : List Item} {G : FuncId} {lb : Array Value} {fn : Func} (ht : atTodo m (.code (.rangeFunc g ps assign body) :: k)) (hds : m.sl.ds = []) (hg : (evS n m.sl g).den β = .func (.func G) #[] lb) (hG : P.funcs[G]? = some fn) (hGb : (fn.body.isSome && !(fn.name == "runtime.NumGoroutine")) = true)
    (h : ∀ w, Mem w0 L β m.hp w → ∃ Jd Jx : World → Prop,
      CallsIn Fence.wide 1 P G (#[.func (.yield (w.heap.size + 1)) #[] #[]] ++ lb) ((w.alloc (.deferred (some []))).alloc (.loop (recL f (fr n β m.sl).tmps ps assign body w.heap.size .ready none))) (fun e W' => (∃ v, e = .returned v) ∧ (Jd W' ∨ Jx W')) ∧
      (∀ W', Jd W' → W'.heap[w.heap.size + 1]? = some (.loop (recL f (fr n β m.sl).tmps ps assign body w.heap.size .ready none)) ∧ Gs P f R n β ⟨.no, k, .dfr [⟨.collected w.heap.size, #[]⟩] m.sl, m.hp⟩ (W'.putObj (w.heap.size + 1) (.loop (recL f (fr n β m.sl).tmps ps assign body w.heap.size .exhausted none)))) ∧
      (∀ W', Jx W' → W'.heap[w.heap.size + 1]? = some (.loop (recL f (fr n β m.sl).tmps ps assign body w.heap.size .done (some .ret))) ∧ Gs P f R n β ⟨.no, .code .ret :: k, .dfr [⟨.collected w.heap.size, #[]⟩] m.sl, m.hp⟩ (W'.putObj (w.heap.size + 1) (.loop (recL f (fr n β m.sl).tmps ps assign body w.heap.size .exhausted (some .ret)))))) : Hs P f R n w0 L β m := by
  obtain ⟨rr, todo, sl, hp⟩ := m
  obtain ⟨h1, h2⟩ := ht
  dsimp only at h1 h2; subst h1; subst h2
  refine ⟨fun w H W => ?_⟩
  obtain ⟨Jd, Jx, hC, hd, hx⟩ := h w H
  show Goes P f R (.code (.rangeFunc g ps assign body) :: k) (fr n β sl) w
  intro kd cs
  have hev : (fr n β sl).eval g = .func (.func G) #[] lb := by rw [fr_eval1]; exact hg
  have hent : ∀ (w : World) (y : Value), (invoke (.fn (.func G) lb) #[y]).run P w = .ok (.enter G (#[y] ++ lb)) w := fun w y => by
    simp only [Bool.and_eq_true, Bool.not_eq_true'] at hGb
    have hb : fn.body.isNone = false := by
      cases hbb : fn.body with
      | none => rw [hbb] at hGb; cases hGb.1
      | some _ => rfl
    unfold invoke
    dsimp only
    unfold callFunc
    simp only [Go.program, Sem.run_bind, Sem.run, Result.andThen, hG, hGb.2, hb]
    rfl
  have hdf : (fr n β sl).defers = [] := hds
  have hstep := stepR_rangeFunc (P := P) (b := fB kd f) (a := fr n β sl) (k := k) (cs := cs) (w := w) (g := g) (ps := ps) (assign := assign) (body := body) (l := w.heap.size + 1) (mark := [⟨.collected w.heap.size, #[]⟩]) (w₁ := (w.alloc (.deferred (some []))).alloc (.loop (recL f (fr n β sl).tmps ps assign body w.heap.size .ready none))) (w₁' := (w.alloc (.deferred (some []))).alloc (.loop (recL f (fr n β sl).tmps ps assign body w.heap.size .ready none))) (w₂ := (w.alloc (.deferred (some []))).alloc (.loop (recL f (fr n β sl).tmps ps assign body w.heap.size .ready none)))
    (d := { target := .fn (.func G) lb, args := #[.func (.yield (w.heap.size + 1)) #[] #[]] }) (f := G) (args := #[.func (.yield (w.heap.size + 1)) #[] #[]] ++ lb) (run_enterLoop_outer _ _ _ _ _) (by simp only [resolve, hev]; simp [go_sem]) (hent _ _)
  obtain ⟨e, W', fr', ⟨⟨v, rfl⟩, hJ⟩, hc, _, hl⟩ := callsIn_wide.1 hC ((fB kd f).atR { fr n β sl with defers := [⟨.collected w.heap.size, #[]⟩] ++ (fr n β sl).defers } (.inRangeFunc (w.heap.size + 1) :: k) :: cs)
  have hlv := step_leave_returned (P := P) (c := (fB kd f).atR { fr n β sl with defers := [⟨.collected w.heap.size, #[]⟩] ++ (fr n β sl).defers } (.inRangeFunc (w.heap.size + 1) :: k)) (cs := cs) hl
  rw [finish_atR_inRangeFunc] at hlv
  have ea : ({ fr n β sl with defers := [⟨.collected w.heap.size, #[]⟩] ++ (fr n β sl).defers } : Act) = fr n β (.dfr [⟨.collected w.heap.size, #[]⟩] sl) := by
    rw [hdf]; rfl
  rw [ea] at hstep hc hlv
  rcases hJ with hJ | hJ
  · obtain ⟨h3, h4⟩ := hd W' hJ
    have h5 := stepR_endRangeFunc (P := P) (b := fB kd f) (a := fr n β (.dfr [⟨.collected w.heap.size, #[]⟩] sl)) (k := k) (cs := cs) (run_endLoop h3 (by simp [recL]))
    obtain ⟨e, w2, fr2, hR, hc2, hf, hk⟩ := h4 kd cs
    exact ⟨e, w2, fr2, hR, Comes.of_steps (Steps.head hstep (Steps.trans hc (Steps.head hlv (.one h5)))) hc2, hf, hk⟩
  · obtain ⟨h3, h4⟩ := hx W' hJ
    have h5 := stepR_endRangeFunc (P := P) (b := fB kd f) (a := fr n β (.dfr [⟨.collected w.heap.size, #[]⟩] sl)) (k := k) (cs := cs) (run_endLoop h3 (by simp [recL]))
    obtain ⟨e, w2, fr2, hR, hc2, hf, hk⟩ := h4 kd cs
    exact ⟨e, w2, fr2, hR, Comes.of_steps (Steps.head hstep (Steps.trans hc (Steps.head hlv (.one h5)))) hc2, hf, hk⟩
end
end Go.Proofs.YtmmcamkmglpgiaaGreatDoor
