/- A machine of symbols: single operations by hand, guards, loops, slices of our own. Over any program; no condition · A machine of symbols: elements of slices, calls that make some thing. Over any program; no condition. -/
import Derived.Test.YtmmcamkmglpgiaaGreatDoorEngD
import Derived.Test.YtmmcamkmglpgiaaGreatDoorApX
namespace Go.Proofs.YtmmcamkmglpgiaaGreatDoor
set_option linter.all false

section
variable {P : Program} {f : FR} {R : Ending → World → Prop} {n : Nat} {w0 : World} {L : List Nat} {β : List Nat} {m : SM}
def valS (s : Sem Value) : Sem Next := s >>= fun v => pure (.value v)
def unitS (s : Sem Unit) : Sem Next := s >>= fun _ => pure .skip
/-- What the operation does that comes. -/
def semOf (n : Nat) (β : List Nat) (m : SM) : Option (Sem Next) := match curOp m with
  | some o => match gOk m o with
    | true => some (execOp (fun x => (evS n m.sl x).den β) o)
    | false => none
  | none => none
theorem semOf_spec {s : Sem Next} (h : semOf n β m = some s) : ∃ o, curOp m = some o ∧ gOk m o = true ∧ execOp (fun x => (evS n m.sl x).den β) o = s ∧ dstOf m = o.dst := by
  unfold semOf at h
  split at h
  · rename_i o ho
    split at h
    · rename_i hg
      injection h with h
      exact ⟨o, ho, hg, h, by unfold dstOf; rw [ho]⟩
    · cases h
  · cases h
/-- An operation that yields a value. -/
theorem Hs.opV {s : Sem Value} (v : SV) (hs : semOf n β m = some (valS s)) (hv : v.wf m.hp.length = true) (h : ∀ w, Mem w0 L β m.hp w → s.run P w = .ok (v.den β) w) (k : Hs P f R n w0 L β (m.put (dstOf m) v m.hp)) : Hs P f R n w0 L β m := by
  obtain ⟨o, ho, hg, he, hd⟩ := semOf_spec hs
  refine ⟨fun w H W => ?_⟩
  rw [hd] at k
  refine Gs.val ho hg ?_ (k.go w H ?_)
  · rw [he]; simp only [valS, Sem.run_bind, h w H, Result.andThen_ok, Sem.run_pure]
  · simp only [SM.wf, SM.put, Bool.and_eq_true]
    exact ⟨putS_wf (SM.wf_sl W) hv, SM.wf_hp W⟩
/-- An operation that turns the world. -/
theorem Hs.opW {s : Sem Value} (hs : semOf n β m = some (valS s)) (h : ∀ w, Mem w0 L β m.hp w → m.wf = true → ∃ (ν : List Nat) (res : SV) (hp' : List HB) (w' : World), s.run P w = .ok (res.den (β ++ ν)) w' ∧ Mem w0 L (β ++ ν) hp' w' ∧ (res.wf hp'.length && (Nat.ble m.hp.length hp'.length && hp'.all (HB.wf hp'.length))) = true ∧ (∀ k ∈ rdOf m, ∀ h, m.hp[k]? = some h → hp'[k]? = some h) ∧ Hs P f R n w0 L (β ++ ν) (m.put (dstOf m) res hp')) : Hs P f R n w0 L β m := by
  obtain ⟨o, ho, hg, he, hd⟩ := semOf_spec hs
  refine ⟨fun w H W => ?_⟩
  rw [hd] at h
  obtain ⟨ν, res, hp', w', h1, H', hw, hrd, hG⟩ := h w H W
  refine Gs.op ho hg ?_
  unfold Oper.wp
  rw [fr_eval, he]
  simp only [valS, Sem.run_bind, h1, Result.andThen_ok, Sem.run_pure, Oper.upon_value]
  simp only [Bool.and_eq_true, Nat.ble_eq] at hw
  refine ⟨β ++ ν, putS o.dst res m.sl, hp', ?_, fun w2 hI => IR.app H.len (SM.wf_hp W) hrd hI, hG.go w' H' ?_⟩
  · rw [← fr_app n ν (by rw [H.len]; exact SM.wf_sl W), ← fr_put]
  · simp only [SM.wf, SM.put, Bool.and_eq_true]
    exact ⟨putS_wf (Slots.wf_mono hw.2.1 (SM.wf_sl W)) hw.1, hw.2.2⟩
/-- The same without a value. -/
theorem Hs.opU {s : Sem Unit} (hs : semOf n β m = some (unitS s)) (h : ∀ w, Mem w0 L β m.hp w → m.wf = true → ∃ (hp' : List HB) (w' : World), s.run P w = .ok () w' ∧ Mem w0 L β hp' w' ∧ (Nat.ble m.hp.length hp'.length && hp'.all (HB.wf hp'.length)) = true ∧ (∀ k ∈ rdOf m, ∀ h, m.hp[k]? = some h → hp'[k]? = some h) ∧ Hs P f R n w0 L β (m.put (dstOf m) (.c (.v undef)) hp')) : Hs P f R n w0 L β m := by
  obtain ⟨o, ho, hg, he, hd⟩ := semOf_spec hs
  refine ⟨fun w H W => ?_⟩
  rw [hd] at h
  obtain ⟨hp', w', h1, H', hw, hrd, hG⟩ := h w H W
  refine Gs.op ho hg ?_
  unfold Oper.wp
  rw [fr_eval, he]
  simp only [unitS, Sem.run_bind, h1, Result.andThen_ok, Sem.run_pure, Oper.upon_skip]
  simp only [Bool.and_eq_true, Nat.ble_eq] at hw
  refine ⟨β, _, hp', fr_put n β m.sl o.dst (.c (.v undef)), fun w2 hI => ?_, hG.go w' H' ?_⟩
  · have : β = β ++ [] := by simp
    rw [this] at hI
    exact IR.app H.len (SM.wf_hp W) hrd hI
  · simp only [SM.wf, SM.put, Bool.and_eq_true]
    exact ⟨putS_wf (Slots.wf_mono hw.1 (SM.wf_sl W)) rfl, hw.2⟩
/-- A slot is read otherwise. -/
theorem Hs.slot (d : Nat) (v : SV) (hv : v.wf m.hp.length = true) (h : (m.sl.at d).den β = v.den β) (k : Hs P f R n w0 L β ⟨m.r, m.todo, .put d v m.sl, m.hp⟩) : Hs P f R n w0 L β m := by
  have e : fr n β (.put d v m.sl) = fr n β m.sl := by
    unfold fr
    rw [show (Slots.put d v m.sl).ds = m.sl.ds from rfl]
    congr 2
    refine List.map_congr_left fun i _ => ?_
    rw [Slots.at_put]
    split
    · rename_i hi; subst hi; exact h.symm
    · rfl
  refine ⟨fun w H W => ?_⟩
  have g := k.go w H (by
    simp only [SM.wf, Bool.and_eq_true, Slots.wf]
    exact ⟨⟨hv, SM.wf_sl W⟩, SM.wf_hp W⟩)
  obtain ⟨r, todo, sl, hp⟩ := m
  unfold Gs at g ⊢
  dsimp only at g ⊢
  rw [e] at g
  exact g
/-- A slot holds a truth value: either. -/
theorem Hs.bool (d : Nat) (b : Bool) (h : (m.sl.at d).den β = .bool b) (ht : b = true → Hs P f R n w0 L β ⟨m.r, m.todo, .put d (.c (.v (.bool true))) m.sl, m.hp⟩) (hf : b = false → Hs P f R n w0 L β ⟨m.r, m.todo, .put d (.c (.v (.bool false))) m.sl, m.hp⟩) : Hs P f R n w0 L β m := by
  cases b
  · exact Hs.slot d (.c (.v (.bool false))) rfl h (hf rfl)
  · exact Hs.slot d (.c (.v (.bool true))) rfl h (ht rfl)
theorem Hs.guard {b : Bool} (x : Bool) (hc : yieldV n β m = some (.bool x, b)) (ht : x = b → Hs P f R n w0 L β (wantM m)) (hf : x ≠ b → Hs P f R n w0 L β (m.put (dstOf m) (.c (.v undef)) m.hp)) : Hs P f R n w0 L β m :=
  ⟨fun w H W => Gs.guard x hc (fun hx => (ht hx).go w (by rw [wantM_hp]; exact H) (by rw [wantM_wf]; exact W)) (fun hx => (hf hx).go w H (put_wf W))⟩
/-- An operation taken first by hand: it yields v in whatever world has the blocks rd. -/
def takeM (i : Nat) (v : SV) (m : SM) : SM := match m.r with
  | .any ops (fuel + 1) lm rd => ⟨.any ops fuel (setBit lm i) rd, m.todo, putS ((ops[i]?).bind (·.dst)) v m.sl, m.hp⟩
  | _ => m
def semAt (i : Nat) (n : Nat) (β : List Nat) (m : SM) : Option (Sem Next × List Nat) := match m.r with
  | .any ops (_ + 1) lm rd => match ops[i]? with
    | some o => match o.guard with
      | none => match (rdyL lm ops.toList 0).contains i && (freeL ops lm i o ops.toList 0 && reachB ops lm rd i) with
        | true => some (execOp (fun x => (evS n m.sl x).den β) o, rdE ops lm rd)
        | false => none
      | some _ => none
    | none => none
  | _ => none
theorem Hs.takeV (i : Nat) {s : Sem Value} {rd : List Nat} (v : SV) (hs : semAt i n β m = some (valS s, rd)) (hv : v.wf m.hp.length = true) (h : ∀ w, IR β m.hp rd w → s.run P w = .ok (v.den β) w) (k : Hs P f R n w0 L β (takeM i v m)) : Hs P f R n w0 L β m := by
  refine ⟨fun w H W => ?_⟩
  have hI : ∀ rd, IR β m.hp rd w := fun _ k _ h hh => H.lies k h hh
  obtain ⟨r, todo, sl, hp⟩ := m
  unfold semAt at hs
  dsimp only at hs
  split at hs
  · rename_i ops fuel lm rd'
    split at hs
    · rename_i o ho
      split at hs
      · rename_i hg
        split at hs
        · rename_i hcond
          injection hs with hs
          injection hs with hs1 hs2
          subst hs2
          simp only [Bool.and_eq_true] at hcond
          obtain ⟨hmem, hfree, hrb⟩ := hcond
          intro hcl hlm hns
          have hil : i < ops.size := (Array.getElem?_eq_some_iff.1 ho).1
          have hready : i ∈ Region.ready .any ops (listedOf ops.size lm) := by rw [rdy_spec hlm]; simpa using hmem
          have hcl' : Closed .any ops (listedOf ops.size (setBit lm i)) := by rw [← listed_set hil]; exact hcl.set hready
          have g := k.go w H (by
            simp only [SM.wf, takeM, Bool.and_eq_true]
            exact ⟨putS_wf (SM.wf_sl W) hv, SM.wf_hp W⟩)
          have g2 := g hcl' (hlm.set hil) hns
          simp only [takeM, ho, Option.bind_some] at g2
          have hap : ∀ j oj, ops[j]? = some oj → j ≠ i → (listedOf ops.size lm).getD j true = false → (∀ e ∈ oj.after, Region.binds .any e = true → e.on ≠ i) → o.apart ops oj = true := fun j oj hj hne hun hno => by
            refine freeL_spec ops.toList 0 hfree j oj (by simpa using hj) ?_ (by simpa using hne) hno
            rw [Nat.zero_add]; exact (listed_false.1 hun).2
          have g3 : wpAnyE P .any ops (QQ P f R todo) (IR β hp (rdsOf rd')) (esOf rd') fuel ((listedOf ops.size lm).setIfInBounds i true) ((fr n β sl).put o.dst (v.den β)) w := by
            rw [listed_set hil, fr_put]; exact g2
          have hyld : ∀ w', IR β hp (rdE ops lm rd') w' → YieldsAt P ops w' o (v.den β) (fr n β sl) := fun w' hI' => .inl ⟨by simp [Region.wanted, hg], .inl (by
            rw [fr_eval, hs1]; simp only [valS, Sem.run_bind, h w' hI', Result.andThen_ok, Sem.run_pure])⟩
          unfold rdE at hyld
          cases hb : hitB ops lm rd' with
          | true =>
            rw [hb] at hyld
            refine wpAnyE_hit _ _ _ _ (not_noE hb) ?_
            exact takeE (v := v.den β) ho (Region.noSelect_spec hns) (fun c a w hp => by cases hp.1) 0 (fun e he => by cases he) fuel _ _ w hcl (fun e he => by cases he) trivial hap hready (fun w' _ => hyld w' (fun k hk => by cases hk)) (wpAnyE_true _ _ _ _ g3)
          | false =>
            rw [hb] at hyld
            unfold reachB at hrb
            rw [hb, Bool.false_or] at hrb
            exact takeE (v := v.den β) ho (Region.noSelect_spec hns) (fun c a w hp => by cases hp.1) ops.size (fun e he => List.all_eq_true.1 hrb e he) fuel _ _ w hcl (noE_of hb) (hI _) hap hready (fun w' hI' => hyld w' hI') g3
        · cases hs
      · cases hs
    · cases hs
  · cases hs
/-! Where a piece of code begins again. -/
inductive HV where
  | no
  | r (wr : Bool) (T : TypeId) (vs : List Value)
  | s (A : Option Addr) (cap n E size : Nat) (vs : List Value)
  | q (wr : Bool) (A : Option Addr) (Q : World → Prop)
def HB.val (β : List Nat) : HB → HV
  | .no => .no
  | .b wr T cs => .r wr T (dens β cs)
  | .r wr T vs => .r wr T vs
  | .s A cap n E size vs => .s A cap n E size vs
  | .q wr A Q _ => .q wr A Q
def hpAt (β : List Nat) (hp : List HB) (k : Nat) : HV := match hp[k]? with
  | some h => h.val β
  | none => .no
def pins : List (Nat × SV) → Slots → Slots
  | [], l => l
  | (d, v) :: ps, l => .put d v (pins ps l)
theorem HB.val_lies {w : World} {β β' : List Nat} {b : Nat} {h h' : HB} (e : h.val β = h'.val β') : h.lies w β b ↔ h'.lies w β' b := by
  cases h <;> cases h' <;> simp only [HB.val, HV.r.injEq, HV.s.injEq, HV.q.injEq, reduceCtorEq] at e <;> simp only [HB.lies] <;> first
    | (obtain ⟨rfl, rfl, rfl⟩ := e; exact Iff.rfl)
    | (obtain ⟨_, rfl, e⟩ := e; rw [e])
    | (obtain ⟨rfl, rfl, rfl, rfl, rfl, rfl⟩ := e; exact Iff.rfl)
theorem HB.val_wr {β β' : List Nat} {h h' : HB} (e : h.val β = h'.val β') : h.wr = h'.wr := by
  cases h <;> cases h' <;> simp only [HB.val, HV.r.injEq, HV.s.injEq, HV.q.injEq, reduceCtorEq] at e <;> first | rfl | exact e.1
theorem HB.val_blk {β β' : List Nat} {b : Nat} {h h' : HB} (e : h.val β = h'.val β') : h.blk b = h'.blk b := by
  cases h <;> cases h' <;> simp only [HB.val, HV.r.injEq, HV.s.injEq, HV.q.injEq, reduceCtorEq] at e <;> first | rfl | (obtain ⟨rfl, _⟩ := e; rfl) | (obtain ⟨_, rfl, _⟩ := e; rfl)
theorem Mem.sub {w : World} {hp hp' : List HB} (H : Mem w0 L β hp w) (ks : List Nat) (hn : ks.Nodup) (he : hp'.map (HB.val (ks.map (nm β))) = ks.map (hpAt β hp)) : Mem w0 L (ks.map (nm β)) hp' w := by
  have hlen : hp'.length = ks.length := by simpa using congrArg List.length he
  have key : ∀ (k : Nat) (h' : HB), hp'[k]? = some h' → h'.blk 0 = h'.blk 0 ∧ (h' = .no ∨ ∃ i h, ks[k]? = some i ∧ hp[i]? = some h ∧ h.val β = h'.val (ks.map (nm β)) ∧ nm (ks.map (nm β)) k = nm β i) := fun k h' hk => by
    refine ⟨rfl, ?_⟩
    have hkl : k < ks.length := by rw [← hlen]; exact (List.getElem?_eq_some_iff.1 hk).1
    have h1 := congrArg (·[k]?) he
    simp only [List.getElem?_map, hk, List.getElem?_eq_getElem hkl, Option.map_some, Option.some.injEq] at h1
    cases hi : hp[ks[k]]? with
    | none =>
      simp only [hpAt, hi] at h1
      cases h' <;> simp [HB.val] at h1
      exact .inl rfl
    | some h =>
      simp only [hpAt, hi] at h1
      exact .inr ⟨ks[k], h, List.getElem?_eq_getElem hkl, hi, h1.symm, by simp [nm, List.getD, hkl]⟩
  refine ⟨H.only, by simp [hlen], fun k h' hk => ?_, fun k h' x hk hw hx => ?_, fun i j hi hj x ei ej li lj => ?_⟩
  · rcases (key k h' hk).2 with rfl | ⟨i, h, _, h2, h3, h4⟩
    · trivial
    · rw [h4]; exact (HB.val_lies h3).1 (H.lies i h h2)
  · rcases (key k h' hk).2 with rfl | ⟨i, h, _, h2, h3, h4⟩
    · cases hw
    · rw [h4, ← HB.val_blk h3] at hx
      exact H.own i h x h2 (by rw [HB.val_wr h3]; exact hw) hx
  · rcases (key i hi ei).2 with rfl | ⟨a, h, h1, h2, h3, h4⟩
    · cases li
    · rcases (key j hj ej).2 with rfl | ⟨a', h', h1', h2', h3', h4'⟩
      · cases lj
      · rw [h4, ← HB.val_blk h3] at li
        rw [h4', ← HB.val_blk h3'] at lj
        have e := H.inj a a' h h' x h2 h2' li lj
        subst e
        exact (List.getElem?_inj (List.getElem?_eq_some_iff.1 h1).1 hn).1 (h1.trans h1'.symm)
theorem pins_at (ps : List (Nat × SV)) (l : Slots) (i : Nat) : (pins ps l).at i = match ps.find? (fun p => decide (i = p.1)) with | some p => p.2 | none => l.at i := by
  induction ps with
  | nil => rfl
  | cons p ps ih =>
    obtain ⟨d, v⟩ := p
    show (Slots.put d v (pins ps l)).at i = _
    rw [Slots.at_put]
    by_cases h : i = d
    · simp [h]
    · simp [h, ih]
theorem pins_ds : ∀ (ps : List (Nat × SV)) (l : Slots), (pins ps l).ds = l.ds
  | [], _ => rfl
  | (_, _) :: ps, l => pins_ds ps l
/-- To a point that is told: T is left to be done, the slots ps are known, the blocks ks. -/
theorem Hs.goto (T : List Item) (ks : List Nat) (hp' : List HB) (ps : List (Nat × SV)) (hT : (match m.r with | .no => (match m.sl.ds with | [] => some m.todo | _ => none) | _ => none) = some T) (hn : ks.Nodup) (he : hp'.map (HB.val (ks.map (nm β))) = ks.map (hpAt β m.hp))
    (hs : ps.map (fun p => p.2.den (ks.map (nm β))) = ps.map (fun p => (m.sl.at p.1).den β)) (hw : ∀ u, (SM.wf ⟨.no, T, pins ps (.vals u), hp'⟩) = true) (h : ∀ u, Hs P f R n w0 L (ks.map (nm β)) ⟨.no, T, pins ps (.vals u), hp'⟩) : Hs P f R n w0 L β m := by
  refine ⟨fun w H W => ?_⟩
  have g := (h fun i => (m.sl.at i).den β).go w (H.sub ks hn he) (hw _)
  obtain ⟨r, todo, sl, hp⟩ := m
  dsimp only at hT
  split at hT
  · split at hT
    rotate_left
    · cases hT
    rename_i hds
    injection hT with hT
    subst hT
    have e : fr n (ks.map (nm β)) (pins ps (.vals fun i => (sl.at i).den β)) = fr n β sl := by
      unfold fr
      rw [pins_ds, hds]
      show Act.mk _ _ = Act.mk _ _
      congr 2
      refine List.map_congr_left fun i _ => ?_
      rw [pins_at]
      split
      · rename_i p hp
        have h1 := List.mem_of_find?_eq_some hp
        have h2 := List.find?_some hp
        simp only [decide_eq_true_eq] at h2
        have h3 := List.map_inj_left.1 hs p h1
        rw [h2]
        exact h3
      · rfl
    show Goes P f R todo (fr n β sl) w
    unfold Gs at g
    dsimp only at g
    rw [e] at g
    exact g
  · cases hT
/-- The loops of a body: what is left to be done where a round begins. -/
def loopsOf : Code → List Item → List (List Item)
  | .seq a b, k => loopsOf a (.code b :: k) ++ loopsOf b k
  | .cond _ x y, k => loopsOf x k ++ loopsOf y k
  | .block id c, k => loopsOf c (.inBlock id :: k)
  | .scope c, k => loopsOf c (.inScope c :: k)
  | .loop c, k => (.code c :: .inLoop c :: k) :: loopsOf c (.inLoop c :: k)
  | _, _ => []
def loopAt (fn : Func) (j : Nat) : List Item := match (loopsOf (codeOf fn) [])[j]? with
  | some l => l
  | none => []
/-- A call that makes a thing known by a fact. -/
theorem Hs.callQ {X : Type} (Ao : X → Option Addr) (v : X → Value) (Q : X → World → Prop) (st : ∀ x (w w' : World), (∀ a, Ao x = some a → w'.heap[a.block]? = w.heap[a.block]?) → w.heap.size ≤ w'.heap.size → Q x w → Q x w') {F : FuncId} {args : Array Value}
    (hC : ∀ w, Mem w0 L β m.hp w → Calls P F args w fun e w' => ∃ x, e = .returned (v x) ∧ Only [] w w' ∧ Q x w' ∧ ∀ a, Ao x = some a → w.heap.size ≤ a.block ∧ a.block < w'.heap.size) (hc : callOf P n β m = some (F, args)) (hrd : (rdOf m).all (fun k => Nat.blt k m.hp.length) = true)
    (h : ∀ x, Hs P f R n w0 L (β ++ [0]) (m.put (dstOf m) (.c (.v (v x))) (m.hp ++ [.q true (Ao x) (Q x) (st x)]))) : Hs P f R n w0 L β m := by
  refine ⟨fun w H W => ?_⟩
  refine (Hs.call hc (fun w H => ?_)).go w H W
  refine Calls.mono (hC w H) ?_
  rintro e w' ⟨x, rfl, O, hQ, hA⟩
  have hw := SM.wf_hp W
  refine ⟨[0], .c (.v (v x)), m.hp ++ [.q true (Ao x) (Q x) (st x)], rfl, H.push (h := .q true (Ao x) (Q x) (st x)) (by rw [H.len]; exact hw) O (fun y hy => ?_) (show Q x w' ∧ _ from ⟨hQ, fun a ha => (hA a ha).2⟩), ?_, fun k hk h hh => ?_, h x⟩
  · simp only [HB.blk, Option.map_eq_some_iff] at hy
    obtain ⟨a, hx, rfl⟩ := hy
    exact (hA a hx).1
  · simp only [SV.wf, SC.wf, Bool.true_and, Bool.and_eq_true, Nat.ble_eq, List.length_append, List.length_cons, List.length_nil, List.all_append, List.all_cons, List.all_nil, Bool.and_true]
    refine ⟨by omega, List.all_eq_true.2 fun y hy => ?_, rfl⟩
    have h1 := List.all_eq_true.1 hw y hy
    cases y with
    | no => rfl
    | s => rfl
    | q => rfl
    | r _ _ _ => rfl
    | b _ _ cs => exact List.all_eq_true.2 fun z hz => SC.wf_mono (by omega) (List.all_eq_true.1 h1 z hz)
  · rw [List.getElem?_append_left (List.getElem?_eq_some_iff.1 hh).1]; exact hh
/-! Slices of our own. -/
theorem Hs.nilS (E size : Nat) (hr : (rdOf m).all (fun k => Nat.blt k m.hp.length) = true) (h : Hs P f R n w0 L (β ++ [0]) ⟨m.r, m.todo, m.sl, m.hp ++ [.s none 0 0 E size []]⟩) (hno : (match m.r with | .no => true | .lst .. => true | .lstN .. => true | _ => false) = true) : Hs P f R n w0 L β m := by
  refine ⟨fun w H W => ?_⟩
  have hw := SM.wf_hp W
  have H2 : Mem w0 L (β ++ [0]) (m.hp ++ [.s none 0 0 E size []]) w := H.push (by rw [H.len]; exact hw) (Only.refl _ _) (fun x hx => by cases hx) ⟨by simp, .inl ⟨rfl, rfl⟩⟩
  have g := h.go w H2 (by
    simp only [SM.wf, Bool.and_eq_true, List.length_append, List.length_cons, List.length_nil, List.all_append, List.all_cons, List.all_nil, Bool.and_true]
    refine ⟨Slots.wf_mono (by omega) (SM.wf_sl W), List.all_eq_true.2 fun x hx => ?_, rfl⟩
    have h1 := List.all_eq_true.1 hw x hx
    cases x with
    | no => rfl
    | s => rfl
    | q => rfl
    | r _ _ _ => rfl
    | b _ _ cs => exact List.all_eq_true.2 fun y hy => SC.wf_mono (by omega) (List.all_eq_true.1 h1 y hy))
  have e : fr n (β ++ [0]) m.sl = fr n β m.sl := fr_app n [0] (by rw [H.len]; exact SM.wf_sl W)
  obtain ⟨r, todo, sl, hp⟩ := m
  unfold Gs at g ⊢
  dsimp only at g ⊢ e hno
  rw [e] at g
  split at hno <;> first | exact g | cases hno
section
variable {α : Type} {cf : α → List Value} {tS E size bytes : Nat}
theorem flatMap_len (hcl : ∀ x, (cf x).length = size) (gs : List α) : (gs.flatMap cf).length = gs.length * size := by
  induction gs with
  | nil => simp
  | cons a r ih => rw [List.flatMap_cons, List.length_append, hcl, ih, List.length_cons, Nat.succ_mul]; omega
/-- append(x, y...), x of our own. -/
theorem Hs.app (k : Nat) (ht : ElemT P tS E size bytes) (l gs : List α) (nl ng : Nat) (hl : l.length = nl) (hg : gs.length = ng) {A B : Option Addr} {cap c ty : Nat} (hone : ∀ x, ∀ u ∈ cf x, u.oneCell' = true) (hcl : ∀ x, (cf x).length = size)
    (hs : semOf n β m = some (valS (Builtin.append_ #[tS, tS] ty #[.slice A nl cap, .slice B ng c]))) (hk : m.hp[k]? = some (.s A cap nl E size (l.flatMap cf))) (hrd : (rdOf m).contains k = false)
    (hr : ∀ w, Mem w0 L β m.hp w → RdX cf w B gs) (hlen : nl + ng ≤ maxLen) (hby : (nl + ng) * bytes ≤ 140737488355328)
    (h : ∀ A' cap', cap' ≤ maxLen → Hs P f R n w0 L β (m.put (dstOf m) (.c (.v (.slice A' (nl + ng) cap'))) (m.hp.set k (.s A' cap' (nl + ng) E size ((l ++ gs).flatMap cf))))) : Hs P f R n w0 L β m := by
  obtain ⟨o, ho, hgk, he, hd⟩ := semOf_spec hs
  refine ⟨fun w H W => ?_⟩
  have hown : OwnX cf E size w 0 (.slice A nl cap) l := by
    unfold OwnX
    rw [hl]
    exact H.lies k _ hk
  subst hl; subst hg
  obtain ⟨v', w', h1, h2, h3, h4⟩ := run_appX (ty := ty) ht hone hown B c gs (flatMap_len hcl gs) (hr w H) hlen hby (Nat.zero_le _)
  obtain ⟨A', cap', rfl, _, hmax, _, hblk⟩ := h2.form
  rw [hd] at h
  have h := h A' cap' hmax
  have hlen2 : (l ++ gs).length = l.length + gs.length := by simp
  rw [hlen2] at h1 h4
  have hkl := (List.getElem?_eq_some_iff.1 hk).1
  have H' : Mem w0 L β (m.hp.set k (.s A' cap' (l.length + gs.length) E size ((l ++ gs).flatMap cf))) w' := by
    refine H.swap k hk h3 (fun x hx => ?_) rfl ?_ (fun x hx => ?_)
    · cases A with
      | none => simp [Value.ownBlock] at hx
      | some a => simp only [Value.ownBlock, Option.toList_some, List.mem_singleton] at hx; subst hx; rfl
    · have h5 := h2
      unfold OwnX at h5
      rw [hlen2] at h5
      exact h5
    · have hb : Value.ownBlock (.slice A' (l.length + gs.length) cap') = some x := by
        cases A' with
        | none => cases hx
        | some a => simp only [HB.blk, Option.map_some] at hx; exact hx
      rcases h4 with h4 | h4
      · left
        rw [h4] at hb
        cases A with
        | none => cases hb
        | some a => exact hb
      · right
        rw [h4] at hb
        injection hb with hb
        omega
  refine Gs.op ho hgk ?_
  unfold Oper.wp
  rw [fr_eval, he]
  simp only [valS, Sem.run_bind, h1, Result.andThen_ok, Sem.run_pure, Oper.upon_value]
  refine ⟨β, _, _, fr_put n β m.sl o.dst (.c (.v (.slice A' (l.length + gs.length) cap'))), fun w2 hI => ?_, h.go w' H' ?_⟩
  · intro i hi hb hh
    refine hI i hi hb ?_
    rw [List.getElem?_set, if_neg (fun e => by
      subst e
      simp at hrd
      exact hrd hi)]
    exact hh
  · simp only [SM.wf, SM.put, Bool.and_eq_true, List.length_set]
    refine ⟨putS_wf (SM.wf_sl W) rfl, List.all_eq_true.2 fun x hx => ?_⟩
    rcases List.mem_or_eq_of_mem_set hx with hx | rfl
    · exact List.all_eq_true.1 (SM.wf_hp W) x hx
    · rfl
end
end
end Go.Proofs.YtmmcamkmglpgiaaGreatDoor

namespace Go.Proofs.YtmmcamkmglpgiaaGreatDoor
set_option linter.all false

section
variable {P : Program} {f : FR} {R : Ending → World → Prop} {n : Nat} {w0 : World} {L : List Nat} {β : List Nat} {m : SM}
theorem run_idx {tS E size bytes : Nat} (ht : ElemT P tS E size bytes) {b off len c i : Nat} (hi : i < len) (w : World) : (Instr.indexAt tS (.slice (some ⟨b, off, none⟩) len c) (.int .i64 i)).run P w = .ok (.pointer (some ⟨b, off + i * size, none⟩)) w := by
  obtain ⟨hu, ⟨i0, z, hinfo, _, hsz, _⟩, _⟩ := ht
  have h1 : (0 : Int) ≤ (i : Int) ∧ (i : Int) < (len : Int) := ⟨by omega, by omega⟩
  simp [Instr.indexAt, asIntOf, run_underlying hu, sizeOf, typeInfo, hinfo, hsz, h1, hi, Addr.add_mid]
theorem Hs.idx {tS E size bytes : Nat} (ht : ElemT P tS E size bytes) {b off len c i : Nat} (hi : i < len) (hs : semOf n β m = some (valS (Instr.indexAt tS (.slice (some ⟨b, off, none⟩) len c) (.int .i64 i)))) (h : Hs P f R n w0 L β (m.put (dstOf m) (.c (.v (.pointer (some ⟨b, off + i * size, none⟩)))) m.hp)) : Hs P f R n w0 L β m :=
  Hs.opV _ hs rfl (fun w _ => run_idx ht hi w) h
theorem rdX_range {α : Type} {cf : α → List Value} {size : Nat} (hcl : ∀ x, (cf x).length = size) {w : World} {b off : Nat} {l : List α} {i : Nat} {x : α} (hr : RdX cf w (some ⟨b, off, none⟩) l) (hx : l[i]? = some x) : w.rangeAt b (off + i * size) (cf x) := fun j v hj => by
  have hil := (List.getElem?_eq_some_iff.1 hx).1
  obtain ⟨b', off', e, _, hc⟩ := hr (by omega)
  injection e with e
  injection e with e1 e2
  subst e1; subst e2
  rw [Nat.add_assoc]
  refine hc _ v ?_
  have key : ∀ (l : List α) (i : Nat), l[i]? = some x → (l.flatMap cf)[i * size + j]? = some v := by
    intro l
    induction l with
    | nil => intro i h; simp at h
    | cons a r ih =>
      intro i h
      cases i with
      | zero =>
        simp at h; subst h
        rw [List.flatMap_cons, List.getElem?_append_left (by have := (List.getElem?_eq_some_iff.1 hj).1; omega), Nat.zero_mul, Nat.zero_add]
        exact hj
      | succ i =>
        simp at h
        rw [List.flatMap_cons, List.getElem?_append_right (by rw [hcl, Nat.succ_mul]; omega), hcl, show (i + 1) * size + j - size = i * size + j by rw [Nat.succ_mul]; omega]
        exact ih i h
  exact key l i hx
/-- An element that is a struct. -/
theorem Hs.ldx {α : Type} {cf : α → List Value} {size : Nat} (hcl : ∀ x, (cf x).length = size) {E b off i : Nat} {l : List α} {x : α} (v : SV) (hs : semOf n β m = some (valS (Instr.loadAt E (.pointer (some ⟨b, off + i * size, none⟩))))) (hr : ∀ w, Mem w0 L β m.hp w → RdX cf w (some ⟨b, off, none⟩) l) (hx : l[i]? = some x) (ha : aggB P E = some true) (hz : szB P E = some size) (hv : v.den β = .agg (cf x).toArray) (hw : v.wf m.hp.length = true)
    (h : Hs P f R n w0 L β (m.put (dstOf m) v m.hp)) : Hs P f R n w0 L β m :=
  Hs.opV v hs hw (fun w H => by
    obtain ⟨d, hu, hd⟩ := aggB_row ha
    rw [hv]
    exact run_loadAt_mid w b _ E (cf x) d (rdX_range hcl (hr w H) hx) hu hd (by rw [szB_size hz, hcl])) h
/-- A call that answers some thing, and leaves the blocks. -/
theorem Hs.callX {X : Type} (v : X → Value) (Q : X → Prop) {F : FuncId} {args : Array Value} (hC : ∀ w, Mem w0 L β m.hp w → Calls P F args w fun e w' => ∃ x, e = .returned (v x) ∧ Only [] w w' ∧ Q x) (hc : callOf P n β m = some (F, args)) (h : ∀ x, Q x → Hs P f R n w0 L β (m.put (dstOf m) (.c (.v (v x))) m.hp)) : Hs P f R n w0 L β m := by
  refine ⟨fun w H W => ?_⟩
  refine (Hs.call hc (fun w H => ?_)).go w H W
  refine Calls.mono (hC w H) ?_
  rintro e w' ⟨x, rfl, O, hQ⟩
  refine ⟨[], .c (.v (v x)), m.hp, rfl, by rw [List.append_nil]; exact H.step O, ?_, fun k _ h hh => hh, by rw [List.append_nil]; exact h x hQ⟩
  simp only [SV.wf, SC.wf, Bool.true_and, Bool.and_eq_true, Nat.ble_eq]
  exact ⟨Nat.le_refl _, SM.wf_hp W⟩
theorem RdX.mem {α : Type} {cf : α → List Value} {w w' : World} {A : Option Addr} {l : List α} (h : RdX cf w0 A l) (O : Only [] w0 w) : RdX cf w A l := h.only O
end
end Go.Proofs.YtmmcamkmglpgiaaGreatDoor
