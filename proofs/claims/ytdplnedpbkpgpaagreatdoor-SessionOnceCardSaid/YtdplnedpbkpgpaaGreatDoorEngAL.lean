/- The machine: it goes into calls and comes back by itself, decides what is known, goes round loops; over any program; no condition. -/
import Derived.Test.YtdplnedpbkpgpaaGreatDoorEngI
namespace Go.Proofs.YtdplnedpbkpgpaaGreatDoor
set_option linter.all false
set_option maxRecDepth 100000

/-! Guards without a list. -/
def litG (n : Nat) (ops : Array Oper) (sl : Slots) (j : Nat) (b : Bool) : Option Bool := match ops[j]? with
  | some oj => match oj.dst with
    | some d => match Nat.blt d n with
      | true => match litB (sl.at d) with
        | some x => some (x == b)
        | none => match notB (sl.at d) with
          | true => some false
          | false => none
      | false => none
    | none => none
  | none => none
def geO (o : Oper) : List Nat := match o.guard with
  | none => []
  | some (j, _) => [j]
def gTakeA (n : Nat) (ops : Array Oper) (sl : Slots) (o : Oper) : Option Bool := match o.guard with
  | none => some true
  | some (j, b) => litG n ops sl j b
theorem gTakeA_eq {n : Nat} {ops : Array Oper} {sl : Slots} {o : Oper} : gTakeA n ops sl o = gTake n (geO o) ops sl o := by
  unfold gTakeA gTake geO
  split
  · rename_i h; simp [h]
  · rename_i j b h
    simp only [h, List.contains_cons, BEq.rfl, Bool.true_or]
    rfl
section
variable (P : Program) (n : Nat) (β : List Nat)
def takeVA (ops : Array Oper) (sl : Slots) (hp : List HB) (rd : List Nat) (o : Oper) : Option SV := match gTakeA n ops sl o with
  | some true => takeV0 P n β sl hp rd o
  | some false => some (.c (.v undef))
  | none => none
def findTakeA (ops : Array Oper) (lm : Nat) (sl : Slots) (hp : List HB) (rd : List Nat) : List Nat → Option (Nat × Oper × SV)
  | [] => none
  | i :: r => match ops[i]? with
    | some o => match takeVA P n β ops sl hp rd o with
      | some v => match freeL ops lm i o ops.toList 0 with
        | true => some (i, o, v)
        | false => findTakeA ops lm sl hp rd r
      | none => findTakeA ops lm sl hp rd r
    | none => findTakeA ops lm sl hp rd r
def exGA (m : SM) (o : Oper) : Option SM := match o.guard with
  | none => exOp P n β m o
  | some _ => byGuard n β m
def oneStepA (m : SM) : Option SM := match m.r with
  | .no => ctl m
  | .lst _ [] => some ⟨.no, m.todo, m.sl, m.hp⟩
  | .lst ops (i :: _) => match ops[i]? with
    | some o => exGA P n β m o
    | none => none
  | .sel ops _ _ _ i => match ops[i]? with
    | some o => exGA P n β m o
    | none => none
  | .lstN ops i _ => match ops[i]? with
    | some o => exOp P n β m o
    | none => none
  | .selN ops _ _ _ i => match ops[i]? with
    | some o => exOp P n β m o
    | none => none
  | .any ops fuel lm rd => match rdyL lm ops.toList 0 with
    | [] => some ⟨.no, m.todo, m.sl, m.hp⟩
    | i0 :: rs => match fuel with
      | 0 => none
      | fuel + 1 => match findTakeA P n β ops lm m.sl m.hp (rdE ops lm rd) ((i0 :: rs).filter (reachB ops lm rd)) with
        | some (i, o, v) => some ⟨.any ops fuel (setBit lm i) rd, m.todo, putS o.dst v m.sl, m.hp⟩
        | none => match rs with
          | [] => some ⟨.sel ops fuel lm rd i0, m.todo, m.sl, m.hp⟩
          | _ => none
end
section
variable {P : Program} {f : FuncId} {R : Ending → World → Prop} {n : Nat} {β ν : List Nat} {m m' : SM} {w w0 : World} {L : List Nat}
theorem takeVA_eq {ops : Array Oper} {sl : Slots} {hp : List HB} {rd : List Nat} {o : Oper} : takeVA P n β ops sl hp rd o = takeV P n β (geO o) ops sl hp rd o := by
  unfold takeVA takeV
  rw [gTakeA_eq]
  generalize gTake n (geO o) ops sl o = g
  cases g with
  | none => rfl
  | some b => cases b <;> rfl
theorem findTakeA_spec {ops : Array Oper} {lm : Nat} {rd : List Nat} {i : Nat} {o : Oper} {v : SV} : ∀ {rs : List Nat}, findTakeA P n β ops lm m.sl m.hp rd rs = some (i, o, v) → i ∈ rs ∧ ops[i]? = some o ∧ takeV P n β (geO o) ops m.sl m.hp rd o = some v ∧ freeL ops lm i o ops.toList 0 = true
  | [], h => by cases h
  | j :: r, h => by
    simp only [findTakeA] at h
    split at h
    · rename_i o' ho
      split at h
      · rename_i v' hv
        split at h
        · rename_i hf
          injection h with h
          injection h with h1 h2
          injection h2 with h2 h3
          subst h1; subst h2; subst h3
          exact ⟨by simp, ho, by rw [← takeVA_eq]; exact hv, hf⟩
        · obtain ⟨h1, h2⟩ := findTakeA_spec h
          exact ⟨List.mem_cons_of_mem _ h1, h2⟩
      · obtain ⟨h1, h2⟩ := findTakeA_spec h
        exact ⟨List.mem_cons_of_mem _ h1, h2⟩
    · obtain ⟨h1, h2⟩ := findTakeA_spec h
      exact ⟨List.mem_cons_of_mem _ h1, h2⟩
theorem exGA_eq {o : Oper} : exGA P n β m o = exG P n β (geO o) m o := by
  unfold exGA exG geO
  split
  · rename_i h; simp [h]
  · rename_i g h
    obtain ⟨j, b⟩ := g
    simp only [h, List.contains_cons, BEq.rfl, Bool.true_or]
theorem oneStepA_sound (H : Mem w0 L β m.hp w) (W : m.wf = true) (h : oneStepA P n β m = some m') (hk : ∀ ν w', Mem w0 L (β ++ ν) m'.hp w' → m'.wf = true → Gs P f R n (β ++ ν) m' w') : Gs P f R n β m w := by
  have k0 : ∀ w', Mem w0 L β m'.hp w' → m'.wf = true → Gs P f R n β m' w' := fun w' h1 h2 => by
    have := hk [] w'
    simp only [List.append_nil] at this
    exact this h1 h2
  unfold oneStepA at h
  split at h
  · rename_i hr
    obtain ⟨h1, h2, h3⟩ := ctl_sound (f := f) (R := R) (n := n) (β := β) (w := w) W hr h
    exact h3 (k0 w (by rw [h1]; exact H) h2)
  · rename_i ops hr
    injection h with h; subst h
    have g := k0 w H W
    obtain ⟨r, todo, sl, hp⟩ := m
    cases hr
    show wpOps P ops (QQ P f R todo) [] (fr n β sl) w
    unfold wpOps
    exact ⟨rfl, g⟩
  · rename_i ops i is hr
    split at h
    · rename_i o ho
      rw [exGA_eq] at h
      exact exG_sound H W (by simp [curOp, hr, ho]) h hk
    · cases h
  · rename_i ops fuel lm rd i hr
    split at h
    · rename_i o ho
      rw [exGA_eq] at h
      exact exG_sound H W (by simp [curOp, hr, ho]) h hk
    · cases h
  · rename_i ops i is hr
    split at h
    · rename_i o ho
      exact exOp_sound H W (by simp [curOp, hr, ho]) h hk
    · cases h
  · rename_i ops fuel lm rd i hr
    split at h
    · rename_i o ho
      exact exOp_sound H W (by simp [curOp, hr, ho]) h hk
    · cases h
  · rename_i ops fuel lm rd hr
    have hI : IR β m.hp (rdsOf rd) w := fun k _ h hh => H.lies k h hh
    split at h
    · rename_i hrdy
      injection h with h; subst h
      have g := k0 w H W
      obtain ⟨r, todo, sl, hp⟩ := m
      cases hr
      intro hcl hlm hns
      have hno : ∀ i, i ∉ Region.ready .any ops (listedOf ops.size lm) := fun i hi => by
        rw [rdy_spec hlm, hrdy] at hi; cases hi
      have he : Region.ready .any ops (listedOf ops.size lm) = [] := List.eq_nil_iff_forall_not_mem.2 hno
      cases fuel with
      | zero => exact ⟨fun _ => hI, he, rfl, g⟩
      | succ f => exact ⟨fun _ => hI, fun _ => ⟨rfl, g⟩, fun i hi => absurd hi (hno i)⟩
    · rename_i i0 rs hrdy
      split at h
      · cases h
      · rename_i fuel
        split at h
        · rename_i i o v hft
          injection h with h; subst h
          obtain ⟨hi, ho, hv, hfree⟩ := findTakeA_spec hft
          obtain ⟨hi, hrb⟩ := List.mem_filter.1 hi
          have g := k0 w H (by
            simp only [SM.wf, Bool.and_eq_true]
            exact ⟨putS_wf (SM.wf_sl W) (takeV_wf W hv), SM.wf_hp W⟩)
          obtain ⟨r, todo, sl, hp⟩ := m
          cases hr
          intro hcl hlm hns
          have hyld := fun w' hI' => takeV_yields (m := ⟨.any ops (fuel + 1) lm rd, todo, sl, hp⟩) hv (w' := w') hI'
          have hil : i < ops.size := (Array.getElem?_eq_some_iff.1 ho).1
          have hready : i ∈ Region.ready .any ops (listedOf ops.size lm) := by rw [rdy_spec hlm, hrdy]; exact hi
          have hcl' : Closed .any ops (listedOf ops.size (setBit lm i)) := by rw [← listed_set hil]; exact hcl.set hready
          have g2 := g hcl' (hlm.set hil) hns
          have hap : ∀ j oj, ops[j]? = some oj → j ≠ i → (listedOf ops.size lm).getD j true = false → (∀ e ∈ oj.after, Region.binds .any e = true → e.on ≠ i) → o.apart ops oj = true := fun j oj hj hne hun hno => by
            refine freeL_spec ops.toList 0 hfree j oj (by simpa using hj) ?_ (by simpa using hne) hno
            rw [Nat.zero_add]; exact (listed_false.1 hun).2
          have g3 : wpAnyE P .any ops (QQ P f R todo) (IR β hp (rdsOf rd)) (esOf rd) fuel ((listedOf ops.size lm).setIfInBounds i true) ((fr n β sl).put o.dst (v.den β)) w := by
            rw [listed_set hil, fr_put]; exact g2
          unfold rdE at hyld
          cases hb : hitB ops lm rd with
          | true =>
            rw [hb] at hyld
            refine wpAnyE_hit _ _ _ _ (not_noE hb) ?_
            exact takeE (v := v.den β) ho (Region.noSelect_spec hns) (fun c a w hp => by cases hp.1) 0 (fun e he => by cases he) fuel _ _ w hcl (fun e he => by cases he) trivial hap hready (fun w' _ => hyld w' (fun k hk => by cases hk)) (wpAnyE_true _ _ _ _ g3)
          | false =>
            rw [hb] at hyld
            unfold reachB at hrb
            rw [hb, Bool.false_or] at hrb
            exact takeE (v := v.den β) ho (Region.noSelect_spec hns) (fun c a w hp => by cases hp.1) ops.size (fun e he => List.all_eq_true.1 hrb e he) fuel _ _ w hcl (noE_of hb) hI hap hready (fun w' hI' => hyld w' hI') g3
        · split at h
          · injection h with h; subst h
            have g := k0 w H W
            obtain ⟨r, todo, sl, hp⟩ := m
            cases hr
            intro hcl hlm hns
            have hready : i0 ∈ Region.ready .any ops (listedOf ops.size lm) := by rw [rdy_spec hlm, hrdy]; simp
            have hil : i0 < ops.size := by
              obtain ⟨_, o, ho, _⟩ := mem_ready.1 hready
              exact (Array.getElem?_eq_some_iff.1 ho).1
            refine ⟨fun _ => hI, fun he => (by rw [he] at hready; cases hready), fun j hj => ?_⟩
            rw [rdy_spec hlm, hrdy] at hj
            obtain rfl : j = i0 := by simpa using hj
            rw [listed_set hil]
            exact g (by rw [hrdy]; simp) hcl hlm hns
          · cases h
end
section
variable {P : Program} {f : FuncId} {R : Ending → World → Prop} {n : Nat} {β ν : List Nat} {m m' : SM} {w w0 : World} {L : List Nat}
theorem takeVA_app (hl : β.length = m.hp.length) (W : m.wf = true) (ops : Array Oper) (rd : List Nat) (o : Oper) : takeVA P n (β ++ ν) ops m.sl m.hp rd o = takeVA P n β ops m.sl m.hp rd o := by
  rw [takeVA_eq, takeVA_eq, takeV_app hl W]
theorem findTakeA_app (hl : β.length = m.hp.length) (W : m.wf = true) (ops : Array Oper) (lm : Nat) (rd : List Nat) : ∀ rs, findTakeA P n (β ++ ν) ops lm m.sl m.hp rd rs = findTakeA P n β ops lm m.sl m.hp rd rs
  | [] => rfl
  | i :: r => by
    simp only [findTakeA, takeVA_app hl W, findTakeA_app hl W ops lm rd r]
theorem oneStepA_app (hl : β.length = m.hp.length) (W : m.wf = true) : oneStepA P n (β ++ ν) m = oneStepA P n β m := by
  have hy : yieldV n (β ++ ν) m = yieldV n β m := by
    have hd : ∀ d, (m.sl.at d).den (β ++ ν) = (m.sl.at d).den β := fun d => SV.den_app ν (by rw [hl]; exact Slots.wf_at (SM.wf_sl W) d)
    simp only [yieldV, hd]
  have hg : byGuard n (β ++ ν) m = byGuard n β m := by simp only [byGuard, hy]
  simp only [oneStepA, exGA, hg, exOp_app hl W, findTakeA_app hl W]
/-- The blocks that were there are there, still. -/
theorem exOp_len {o : Oper} (h : exOp P n β m o = some m') : m.hp.length ≤ m'.hp.length := by
  unfold exOp at h
  split at h
  · cases h
  · split at h
    · injection h with h; subst h; exact Nat.le_refl _
    · split at h
      · split at h
        · split at h
          · injection h with h; subst h; exact Nat.le_refl _
          · cases h
        · cases h
      · split at h
        · rw [forceN_eq] at h
          injection h with h; subst h
          show m.hp.length ≤ (m.hp ++ _).length
          rw [List.length_append]; omega
        · split at h
          · injection h with h; subst h
            show m.hp.length ≤ (m.hp.set _ _).length
            rw [List.length_set]; exact Nat.le_refl _
          · cases h
        · cases h
end

/-! Slots that have been written anew are forgotten. -/
def prune (seen : Nat) : Slots → Slots
  | .vals f => .vals f
  | .dfr ds l => .dfr ds (prune seen l)
  | .put d v l => match Nat.testBit seen d with
    | true => prune seen l
    | false => .put d v (prune (seen ||| 2 ^ d) l)
theorem prune_at : ∀ (sl : Slots) (seen i : Nat), seen.testBit i = false → (prune seen sl).at i = sl.at i
  | .vals f, _, _, _ => rfl
  | .dfr _ l, seen, i, h => prune_at l seen i h
  | .put d v l, seen, i, h => by
    unfold prune
    rw [Slots.at_put]
    split
    · rename_i hd
      rw [if_neg (fun e => by subst e; rw [h] at hd; cases hd)]
      exact prune_at l seen i h
    · rename_i hd
      rw [Slots.at_put]
      split
      · rfl
      · rename_i hne
        refine prune_at l _ i ?_
        rw [Nat.testBit_or, h, Nat.testBit_two_pow]
        simp [Ne.symm hne]
theorem prune_ds : ∀ (sl : Slots) (seen : Nat), (prune seen sl).ds = sl.ds
  | .vals _, _ => rfl
  | .dfr _ _, _ => rfl
  | .put d v l, seen => by
    unfold prune
    split
    · exact prune_ds l seen
    · exact prune_ds l _
theorem prune_wf {m : Nat} : ∀ {sl : Slots} {seen : Nat}, sl.wf m = true → (prune seen sl).wf m = true
  | .vals _, _, _ => rfl
  | .dfr _ l, seen, h => prune_wf (sl := l) h
  | .put d v l, seen, h => by
    simp only [Slots.wf, Bool.and_eq_true] at h
    unfold prune
    split
    · exact prune_wf h.2
    · simp only [Slots.wf, Bool.and_eq_true]
      exact ⟨h.1, prune_wf h.2⟩
theorem fr_prune (n : Nat) (β : List Nat) (sl : Slots) : fr n β (prune 0 sl) = fr n β sl := by
  unfold fr
  rw [prune_ds]
  congr 2
  exact List.map_congr_left fun i _ => by rw [prune_at sl 0 i (Nat.zero_testBit i)]

/-! With the calls. -/
/-- A function that waits for a call that it made. -/
structure FRm where
  f : FuncId
  fn : Func
  m : SM
  lock : List Nat
/-- A state, with the functions that wait. -/
structure KS where
  st : List FRm
  f : FuncId
  fn : Func
  m : SM
  lock : List Nat
def KR (P : Program) (R0 : Ending → World → Prop) (w0 : World) (L β : List Nat) : List FRm → Ending → World → Prop
  | [] => R0
  | fr :: st => InR P fr.f (KR P R0 w0 L β st) fr.fn.ntmps w0 L (β.take fr.m.hp.length) fr.m
/-- What is said of the functions that wait: their names are old, what they hold is held. -/
def OkSt (P : Program) : List HB → List Nat → List FRm → Prop
  | _, _, [] => True
  | hp, lock, fr :: st => P.funcs[fr.f]? = some fr.fn ∧ fr.m.hp.length ≤ hp.length ∧ (∀ k ∈ rdOf fr.m ++ fr.lock, k ∈ lock ∧ ∀ h, fr.m.hp[k]? = some h → hp[k]? = some h) ∧ OkSt P fr.m.hp fr.lock st
theorem OkSt.mono {P : Program} {hp hp' : List HB} {lock : List Nat} (h : hp.length ≤ hp'.length) (hk : ∀ k ∈ lock, ∀ h, hp[k]? = some h → hp'[k]? = some h) : ∀ {st : List FRm}, OkSt P hp lock st → OkSt P hp' lock st
  | [], _ => trivial
  | _ :: _, ⟨h1, h2, h3, h4⟩ => ⟨h1, Nat.le_trans h2 h, fun k hm => ⟨(h3 k hm).1, fun b hb => hk k (h3 k hm).1 b ((h3 k hm).2 b hb)⟩, h4⟩
theorem KR_app {P : Program} {R0 : Ending → World → Prop} {w0 : World} {L β ν : List Nat} : ∀ {st : List FRm} {hp : List HB} {lock : List Nat}, OkSt P hp lock st → hp.length ≤ β.length → KR P R0 w0 L (β ++ ν) st = KR P R0 w0 L β st
  | [], _, _, _, _ => rfl
  | fr :: st, hp, _, ⟨_, h2, _, h4⟩, hl => by
    unfold KR
    rw [KR_app h4 (by omega), List.take_append_of_le_length (by omega)]
def HsK (P : Program) (R0 : Ending → World → Prop) (w0 : World) (L β : List Nat) (s : KS) : Prop := Hs P s.f (KR P R0 w0 L β s.st) s.fn.ntmps w0 L β s.m
/-- Is a slot a block's that the region makes? -/
def madeIn (t : Nat) : List Oper → Bool
  | [] => false
  | o :: l => match o.op with
    | .alloc _ => match o.dst with
      | some d => match Nat.beq d t with
        | true => true
        | false => madeIn t l
      | none => madeIn t l
    | _ => madeIn t l
/-- The stores of a region, but for those into blocks that it makes. -/
def marksK (all : List Oper) : List Oper → Nat → List Nat
  | [], _ => []
  | o :: l, i => match o.op with
    | .store _ (.tmp t) _ => match madeIn t all with
      | true => marksK all l (i + 1)
      | false => (1000 + i) :: marksK all l (i + 1)
    | _ => marksK all l (i + 1)
def rdK' (ops : Array Oper) (n : Nat) : List Nat := List.range (min n 999) ++ marksK ops.toList ops.toList 0
def condK (n : Nat) (m : SM) : Option SM := match m.r with
  | .no => match m.todo with
    | .code (.cond c x y) :: k => match litB (evS n m.sl c) with
      | some true => some ⟨.no, .code x :: k, m.sl, m.hp⟩
      | some false => some ⟨.no, .code y :: k, m.sl, m.hp⟩
      | none => none
    | .code (.loop c) :: k => some ⟨.no, .code c :: .inLoop c :: k, m.sl, m.hp⟩
    | .inLoop c :: k => some ⟨.no, .code c :: .inLoop c :: k, prune 0 m.sl, m.hp⟩
    | .code (.region _ ops true) :: k => match Region.noSelect ops with
      | true => some ⟨.any ops ops.size 0 (rdK' ops m.hp.length), k, m.sl, m.hp⟩
      | false => none
    | _ => none
  | _ => none
/-- A call of a function by its name: its number, what it is handed. -/
def goK (P : Program) (inl : List FuncId) (m : SM) (n : Nat) : Option (FuncId × Func × List SV) := match curOp m with
  | some o => match gOk m o with
    | true => match o.op with
      | .call c => match c.callee with
        | .value (.func F) => match inl.contains F with
          | true => match P.funcs[F]? with
            | some fn => some (F, fn, c.args.toList.map (evS n m.sl))
            | none => none
          | false => none
        | _ => none
      | _ => none
    | false => none
  | none => none
def okIn (P : Program) (inl : List FuncId) : Bool := inl.all fun F => match P.funcs[F]? with
  | some fn => fn.body.isSome && !(fn.name == "runtime.NumGoroutine")
  | none => false
/-- Two texts that are the same. -/
def eqL : List UInt8 → List UInt8 → Bool
  | [], [] => true
  | a :: l, b :: r => match Nat.beq a.toNat b.toNat with
    | true => eqL l r
    | false => false
  | _, _ => false
theorem eqL_eq : ∀ (l r : List UInt8), eqL l r = (l == r)
  | [], [] => rfl
  | [], _ :: _ => rfl
  | _ :: _, [] => rfl
  | a :: l, b :: r => by
    unfold eqL
    rw [List.cons_beq_cons]
    by_cases h : a = b
    · subst h
      rw [show Nat.beq a.toNat a.toNat = true from Nat.beq_refl _]
      simp only [BEq.rfl, Bool.true_and]
      exact eqL_eq l r
    · have h1 : Nat.beq a.toNat b.toNat = false := beq_false.2 fun e => h (UInt8.toNat_inj.1 e)
      have h2 : (a == b) = false := by simpa using h
      rw [h1, h2]
      rfl
/-- An element of a row. -/
def rowAt (P : Program) (T : TypeId) (cs : List SC) (i : SV) : Option SV := match P.underlying T with
  | some (.array len e) => match i with
    | .c (.v (.int _ (.ofNat j))) => match Nat.blt j len with
      | true => match szB P e with
        | some n => partS P e cs (j * n)
        | none => none
      | false => none
    | _ => none
  | _ => none
/-- Texts compared, rows indexed, a slice of a whole array. -/
def xV (P : Program) (n : Nat) (m : SM) (o : Oper) : Option SV := match o.op with
  | .binOp .eql _ x y _ => match evS n m.sl x with
    | .c (.v (.string a)) => match evS n m.sl y with
      | .c (.v (.string b)) => some (.c (.v (.bool (eqL a.data.toList b.data.toList))))
      | _ => none
    | _ => none
  | .binOp .neq _ x y _ => match evS n m.sl x with
    | .c (.v (.string a)) => match evS n m.sl y with
      | .c (.v (.string b)) => some (.c (.v (.bool (!eqL a.data.toList b.data.toList))))
      | _ => none
    | _ => none
  | .index T x i => match evS n m.sl x with
    | .g cs => rowAt P T cs (evS n m.sl i)
    | _ => none
  | .slice T x none none none => match evS n m.sl x with
    | .c (.p k off) => match P.underlying T with
      | some (.array len e) => match szB P e with
        | some _ => some (.c (.s k off len len))
        | none => none
      | _ => none
    | _ => none
  | _ => none
def strK (P : Program) (n : Nat) (m : SM) : Option SM := match curOp m with
  | some o => match gOk m o with
    | true => match xV P n m o with
      | some v => some (m.put o.dst v m.hp)
      | none => none
    | false => none
  | none => none
/-- Is what is stored not held by a function that waits? -/
def freeK (m : SM) (n : Nat) (lock : List Nat) : Bool := match lock with
  | [] => true
  | _ => match curOp m with
    | some o => match o.op with
      | .store _ x _ => match evS n m.sl x with
        | .c (.p k _) => !(lock.contains k)
        | _ => true
      | _ => true
    | none => true
def stepK (P : Program) (β : List Nat) (inl : List FuncId) (s : KS) : Option KS := match s.m.r with
  | .no => match condK s.fn.ntmps s.m with
    | some m' => some ⟨s.st, s.f, s.fn, m', s.lock⟩
    | none => match ctl s.m with
      | some m' => some ⟨s.st, s.f, s.fn, m', s.lock⟩
      | none => match s.st with
        | [] => none
        | fr :: st => match retS P s.fn s.fn.ntmps s.m with
          | some v => match v.wf s.m.hp.length with
            | true => some ⟨st, fr.f, fr.fn, fr.m.put (dstOf fr.m) v s.m.hp, fr.lock⟩
            | false => none
          | none => none
  | _ => match strK P s.fn.ntmps s.m with
   | some m' => some ⟨s.st, s.f, s.fn, m', s.lock⟩
   | none => match goK P inl s.m s.fn.ntmps with
    | some (F, fn, xs) => match Nat.ble xs.length fn.ntmps with
      | true => some ⟨⟨s.f, s.fn, s.m, s.lock⟩ :: s.st, F, fn, startM fn xs s.m.hp, rdOf s.m ++ s.lock⟩
      | false => none
    | none => match freeK s.m s.fn.ntmps s.lock with
      | true => match oneStepA P s.fn.ntmps β s.m with
        | some m' => some ⟨s.st, s.f, s.fn, m', s.lock⟩
        | none => none
      | false => none
def runK (P : Program) (β : List Nat) (inl : List FuncId) (k : Nat) : KS → KS :=
  Nat.rec (fun s => s) (fun _ ih s => match stepK P β inl s with | some s' => ih s' | none => s) k
section
variable {P : Program} {f : FuncId} {R R0 : Ending → World → Prop} {n : Nat} {β ν : List Nat} {m m' : SM} {w w0 : World} {L : List Nat} {inl : List FuncId} {s s' : KS}
theorem oneStepA_len (h : oneStepA P n β m = some m') : m.hp.length ≤ m'.hp.length := by
  have hg : ∀ {o : Oper}, exGA P n β m o = some m' → m.hp.length ≤ m'.hp.length := fun {o} h => by
    unfold exGA at h
    split at h
    · exact exOp_len h
    · unfold byGuard at h
      split at h
      · injection h with h; subst h; rw [wantM_hp]; exact Nat.le_refl _
      · injection h with h; subst h; rw [wantM_hp]; exact Nat.le_refl _
      · injection h with h; subst h; exact Nat.le_refl _
      · injection h with h; subst h; exact Nat.le_refl _
      · injection h with h; subst h; exact Nat.le_refl _
      · cases h
  unfold oneStepA at h
  split at h
  · rename_i hr
    unfold ctl at h
    split at h
    · injection h with h; subst h; exact Nat.le_refl _
    · injection h with h; subst h; exact Nat.le_refl _
    · injection h with h; subst h; exact Nat.le_refl _
    · injection h with h; subst h; exact Nat.le_refl _
    · injection h with h; subst h; exact Nat.le_refl _
    · injection h with h; subst h; exact Nat.le_refl _
    · injection h with h; subst h; exact Nat.le_refl _
    · split at h
      · injection h with h; subst h; exact Nat.le_refl _
      · cases h
    · injection h with h; subst h; exact Nat.le_refl _
    · cases h
  · injection h with h; subst h; exact Nat.le_refl _
  · split at h
    · exact hg h
    · cases h
  · split at h
    · exact hg h
    · cases h
  · split at h
    · exact exOp_len h
    · cases h
  · split at h
    · exact exOp_len h
    · cases h
  · split at h
    · injection h with h; subst h; exact Nat.le_refl _
    · split at h
      · cases h
      · split at h
        · injection h with h; subst h; exact Nat.le_refl _
        · split at h
          · injection h with h; subst h; exact Nat.le_refl _
          · cases h
theorem rowAt_run {T : TypeId} {cs : List SC} {i v : SV} (h : rowAt P T cs i = some v) (w : World) : (Instr.index T (.agg (dens β cs).toArray) (i.den β)).run P w = .ok (v.den β) w := by
  unfold rowAt at h
  split at h
  · rename_i len e hu
    split at h
    · rename_i kd j
      split at h
      · rename_i hlt
        split at h
        · rename_i n hn
          have hlt := Nat.le_of_ble_eq_true hlt
          have h1 : (0 : Int) ≤ Int.ofNat j ∧ Int.ofNat j < (len : Int) := ⟨by exact Int.natCast_nonneg j, by show (j : Int) < (len : Int); exact_mod_cast hlt⟩
          have hp := run_part_S (β := β) (w := w) h
          simp only [Instr.index, SV.den, SC.den, asIntOf, Sem.run_bind, Sem.run_pure, Result.andThen_ok, run_underlying hu w]
          rw [if_pos h1]
          simp only [Sem.run_bind, run_sizeB hn w, Result.andThen_ok]
          exact hp
        · cases h
      · cases h
    · cases h
  · cases h
theorem rowAt_wf {T : TypeId} {cs : List SC} {i v : SV} {k : Nat} (h : rowAt P T cs i = some v) (hw : cs.all (SC.wf k) = true) : v.wf k = true := by
  unfold rowAt at h
  split at h
  · split at h
    · split at h
      · split at h
        · exact partS_wf h hw
        · cases h
      · cases h
    · cases h
  · cases h
theorem xV_run {o : Oper} {v : SV} (W : m.wf = true) (h : xV P n m o = some v) (w : World) : (execOp (fun x => (evS n m.sl x).den β) o).run P w = .ok (.value (v.den β)) w ∧ v.wf m.hp.length = true := by
  unfold xV at h
  split at h
  · rename_i T x y ci ho
    split at h
    · rename_i a ha
      split at h
      · rename_i b hb
        injection h with h; subst h
        refine ⟨?_, rfl⟩
        have e : eqL a.data.toList b.data.toList = (a.toList == b.toList) := by rw [eqL_eq, ByteArray.toList_eq, ByteArray.toList_eq]
        rw [e]
        unfold execOp
        rw [ho]
        dsimp only
        rw [show (evS n m.sl x).den β = .string a by rw [ha]; rfl, show (evS n m.sl y).den β = .string b by rw [hb]; rfl]
        rfl
      · cases h
    · cases h
  · rename_i T x y ci ho
    split at h
    · rename_i a ha
      split at h
      · rename_i b hb
        injection h with h; subst h
        refine ⟨?_, rfl⟩
        have e : eqL a.data.toList b.data.toList = (a.toList == b.toList) := by rw [eqL_eq, ByteArray.toList_eq, ByteArray.toList_eq]
        rw [e]
        unfold execOp
        rw [ho]
        dsimp only
        rw [show (evS n m.sl x).den β = .string a by rw [ha]; rfl, show (evS n m.sl y).den β = .string b by rw [hb]; rfl]
        rfl
      · cases h
    · cases h
  · rename_i T x i ho
    split at h
    · rename_i cs hx
      refine ⟨?_, rowAt_wf h ?_⟩
      · unfold execOp
        rw [ho]
        dsimp only
        rw [show (evS n m.sl x).den β = .agg (dens β cs).toArray by rw [hx]; rfl]
        simp only [Sem.run_bind, rowAt_run h w, Result.andThen_ok, Sem.run_pure]
      · have := evS_wf W x (n := n)
        rw [hx] at this
        exact this
    · cases h
  · rename_i T x ho
    split at h
    · rename_i k off hx
      split at h
      · rename_i len e hu
        split at h
        · rename_i sz hsz
          injection h with h; subst h
          refine ⟨?_, ?_⟩
          · unfold execOp
            rw [ho]
            dsimp only
            rw [show (evS n m.sl x).den β = .pointer (some ⟨nm β k, off, none⟩) by rw [hx]; rfl]
            simp only [Option.map_none, Instr.sliceAt, Instr.sliceBounds, Instr.sureAddr, Sem.run_bind, run_underlying hu w, Result.andThen_ok, Sem.run_pure, run_sizeB hsz w, Nat.zero_mul, Nat.sub_zero]
            split <;> simp [Addr.add_mid, SV.den, SC.den]
          · have := evS_wf W x (n := n)
            rw [hx] at this
            exact this
        · cases h
      · cases h
    · cases h
  · cases h
theorem strK_sound (h : strK P n m = some m') (H : Mem w0 L β m.hp w) (W : m.wf = true) : m'.hp = m.hp ∧ m'.wf = true ∧ (Gs P f R n β m' w → Gs P f R n β m w) := by
  unfold strK at h
  split at h
  · rename_i o ho
    split at h
    · rename_i hg
      split at h
      · rename_i v hv
        injection h with h; subst h
        obtain ⟨hrun, hwf⟩ := xV_run (β := β) (P := P) W hv w
        refine ⟨rfl, ?_, fun g => Gs.val ho hg hrun g⟩
        simp only [SM.wf, SM.put, Bool.and_eq_true]
        exact ⟨putS_wf (SM.wf_sl W) hwf, SM.wf_hp W⟩
      · cases h
    · cases h
  · cases h
theorem exOp_keep {o : Oper} {lock : List Nat} (ho : curOp m = some o) (hfree : freeK m n lock = true) (h : exOp P n β m o = some m') : ∀ k ∈ lock, ∀ b, m.hp[k]? = some b → m'.hp[k]? = some b := fun k hk b hb => by
  unfold exOp at h
  split at h
  · cases h
  · split at h
    · injection h with h; subst h; exact hb
    · split at h
      · split at h
        · split at h
          · injection h with h; subst h; exact hb
          · cases h
        · cases h
      · split at h
        · rw [forceN_eq] at h
          injection h with h; subst h
          show (m.hp ++ _)[k]? = some b
          rw [List.getElem?_append_left (List.getElem?_eq_some_iff.1 hb).1]
          exact hb
        · rename_i k0 off T cs ds he
          split at h
          · injection h with h; subst h
            obtain ⟨t, x, y, h1, h2, h3, h4, h5, h6, h7⟩ := seff_store_spec he
            have hne : k0 ≠ k := fun e => by
              subst e
              unfold freeK at hfree
              split at hfree
              · cases hk
              · rw [ho] at hfree
                dsimp only at hfree
                rw [h1] at hfree
                dsimp only at hfree
                rw [h2] at hfree
                simp only [Bool.not_eq_true'] at hfree
                have := List.contains_iff_mem.2 hk
                rw [this] at hfree
                cases hfree
            show (m.hp.set k0 _)[k]? = some b
            rw [List.getElem?_set_ne hne]
            exact hb
          · cases h
        · cases h
theorem oneStepA_keep {lock : List Nat} (hfree : freeK m n lock = true) (h : oneStepA P n β m = some m') : ∀ k ∈ lock, ∀ b, m.hp[k]? = some b → m'.hp[k]? = some b := fun k hk b hb => by
  have hg : ∀ {o : Oper}, curOp m = some o → exGA P n β m o = some m' → m'.hp[k]? = some b := fun {o} ho h => by
    unfold exGA at h
    split at h
    · exact exOp_keep ho hfree h k hk b hb
    · unfold byGuard at h
      split at h
      · injection h with h; subst h; rw [wantM_hp]; exact hb
      · injection h with h; subst h; rw [wantM_hp]; exact hb
      · injection h with h; subst h; exact hb
      · injection h with h; subst h; exact hb
      · injection h with h; subst h; exact hb
      · cases h
  unfold oneStepA at h
  split at h
  · rename_i hr
    unfold ctl at h
    split at h
    · injection h with h; subst h; exact hb
    · injection h with h; subst h; exact hb
    · injection h with h; subst h; exact hb
    · injection h with h; subst h; exact hb
    · injection h with h; subst h; exact hb
    · injection h with h; subst h; exact hb
    · injection h with h; subst h; exact hb
    · split at h
      · injection h with h; subst h; exact hb
      · cases h
    · injection h with h; subst h; exact hb
    · cases h
  · injection h with h; subst h; exact hb
  · rename_i hr
    split at h
    · rename_i o ho
      exact hg (by simp [curOp, hr, ho]) h
    · cases h
  · rename_i hr
    split at h
    · rename_i o ho
      exact hg (by simp [curOp, hr, ho]) h
    · cases h
  · rename_i hr
    split at h
    · rename_i o ho
      exact exOp_keep (by simp [curOp, hr, ho]) hfree h k hk b hb
    · cases h
  · rename_i hr
    split at h
    · rename_i o ho
      exact exOp_keep (by simp [curOp, hr, ho]) hfree h k hk b hb
    · cases h
  · split at h
    · injection h with h; subst h; exact hb
    · split at h
      · cases h
      · split at h
        · injection h with h; subst h; exact hb
        · split at h
          · injection h with h; subst h; exact hb
          · cases h
/-- Back into the caller; what it holds is held. -/
theorem Hs.retJ {F : FuncId} {fn : Func} {n0 : Nat} {β0 : List Nat} {m0 : SM} (hf : P.funcs[F]? = some fn) (hr : ((retS P fn n m).isSome && ((resOf P fn n m).wf m.hp.length && Nat.ble m0.hp.length m.hp.length)) = true) (hβ : β = β0 ++ β.drop β0.length)
    (hrd : ∀ k ∈ rdOf m0, ∀ h, m0.hp[k]? = some h → m.hp[k]? = some h) (h : Hs P f R n0 w0 L β (m0.put (dstOf m0) (resOf P fn n m) m.hp)) : Hs P F (InR P f R n0 w0 L β0 m0) n w0 L β m := by
  simp only [Bool.and_eq_true] at hr
  obtain ⟨h1, h2, h3⟩ := hr
  obtain ⟨v, hv⟩ := Option.isSome_iff_exists.1 h1
  have e : resOf P fn n m = v := by unfold resOf; rw [hv]; rfl
  rw [e] at h h2
  refine ⟨fun w H W => ?_⟩
  refine (Hs.ret hf (retS_of hv) (fun w' H' => ?_)).go w H W
  refine ⟨β.drop β0.length, v, m.hp, by rw [← hβ], by rw [← hβ]; exact H', ?_, hrd, by rw [← hβ]; exact h⟩
  rw [h2, h3, SM.wf_hp W]; rfl
theorem slotsOf_wf {k : Nat} : ∀ {xs : List SV} {i : Nat}, (∀ x ∈ xs, x.wf k = true) → (slotsOf xs i).wf k = true
  | [], _, _ => rfl
  | x :: l, i, h => by
    simp only [slotsOf, Slots.wf, Bool.and_eq_true]
    exact ⟨h x List.mem_cons_self, slotsOf_wf fun y hy => h y (List.mem_cons_of_mem _ hy)⟩
theorem goK_spec {F : FuncId} {fn : Func} {xs : List SV} (hin : okIn P inl = true) (h : goK P inl m n = some (F, fn, xs)) : callOf P n β m = some (F, (xs.map (SV.den β)).toArray) ∧ P.funcs[F]? = some fn ∧ fn.body.isSome = true ∧ (m.wf = true → ∀ x ∈ xs, x.wf m.hp.length = true) := by
  unfold goK at h
  split at h
  · rename_i o ho
    split at h
    · rename_i hg
      split at h
      · rename_i c hc
        split at h
        · rename_i F' hcal
          split at h
          · rename_i hcon
            split at h
            · rename_i fn' hF
              injection h with h
              injection h with h1 h2
              injection h2 with h2 h3
              subst h1; subst h2; subst h3
              have hok := List.all_eq_true.1 hin F' (by simpa using hcon)
              rw [hF] at hok
              simp only [Bool.and_eq_true, Bool.not_eq_true'] at hok
              refine ⟨?_, hF, hok.1, fun W x hx => ?_⟩
              · unfold callOf
                rw [ho]
                dsimp only
                rw [hg]
                dsimp only
                have hb : fn'.body.isNone = false := by
                  cases hbb : fn'.body with
                  | none => rw [hbb] at hok; cases hok.1
                  | some _ => rfl
                have e : pureOut P (execOp (fun x => (evS n m.sl x).den β) o) = some (.enter F' ((c.args.toList.map (evS n m.sl)).map (SV.den β)).toArray) := by
                  unfold execOp
                  rw [hc]
                  dsimp only
                  unfold resolve
                  rw [hcal]
                  dsimp only
                  have ev : (evS n m.sl (.func F')).den β = .func (.func F') #[] #[] := rfl
                  rw [ev]
                  show pureOut P (invoke (.fn (.func F') #[]) (#[] ++ c.args.map fun x => (evS n m.sl x).den β)) = _
                  unfold invoke
                  dsimp only
                  have hprog : ∀ (k : Program → Sem Next), pureOut P (program >>= k) = pureOut P (k P) := fun k => rfl
                  unfold callFunc
                  rw [hprog]
                  rw [hF]
                  dsimp only
                  rw [hok.2, hb]
                  simp only [Bool.false_eq_true, if_false]
                  show some (Next.enter F' _) = _
                  congr 2
                  apply Array.ext'
                  simp [Function.comp_def]
                rw [e]
              · obtain ⟨y, _, rfl⟩ := List.mem_map.1 hx
                exact evS_wf W y
            · cases h
          · cases h
        · cases h
      · cases h
    · cases h
  · cases h
theorem condK_hp (h : condK n m = some m') : m'.hp = m.hp := by
  unfold condK at h
  split at h
  · split at h
    · split at h
      · injection h with h; subst h; rfl
      · injection h with h; subst h; rfl
      · cases h
    · injection h with h; subst h; rfl
    · injection h with h; subst h; rfl
    · split at h
      · injection h with h; subst h; rfl
      · cases h
    · cases h
  · cases h
theorem condK_sound (hfol : P.follows .mixedOrders = true) (h : condK n m = some m') (k : Hs P f R n w0 L β m') : Hs P f R n w0 L β m := by
  obtain ⟨r, todo, sl, hp⟩ := m
  unfold condK at h
  dsimp only at h
  split at h
  · split at h
    · rename_i c x y t
      split at h
      · rename_i hl
        injection h with h; subst h
        exact Hs.cond true (by show some ((evS n sl c).den β) = _; rw [litB_spec hl]) (fun _ => k) (fun h => by cases h)
      · rename_i hl
        injection h with h; subst h
        exact Hs.cond false (by show some ((evS n sl c).den β) = _; rw [litB_spec hl]) (fun h => by cases h) (fun _ => k)
      · cases h
    · injection h with h; subst h
      exact Hs.loop rfl k
    · rename_i c t
      injection h with h; subst h
      refine Hs.loop rfl ⟨fun w H W => ?_⟩
      have g := k.go w H (by
        simp only [SM.wf, Bool.and_eq_true] at W ⊢
        exact ⟨prune_wf W.1, W.2⟩)
      show Goes P f R _ (fr n β sl) w
      have g' : Goes P f R (.code c :: .inLoop c :: t) (fr n β (prune 0 sl)) w := g
      rw [fr_prune] at g'
      exact g'
    · rename_i id ops t
      split at h
      · rename_i hns
        injection h with h; subst h
        have e : anyOf (rdK' ops hp.length) ⟨.no, .code (.region id ops true) :: t, sl, hp⟩ = some ⟨.any ops ops.size 0 (rdK' ops hp.length), t, sl, hp⟩ := by
          unfold anyOf
          dsimp only
          rw [hns]
        refine Hs.any (rdK' ops hp.length) (by rw [hfol, e]; rfl) ?_
        unfold anyM
        rw [e]
        exact k
      · cases h
    · cases h
  · cases h
theorem stepK_app (hl : β.length = s.m.hp.length) (W : s.m.wf = true) : stepK P (β ++ ν) inl s = stepK P β inl s := by
  unfold stepK
  rw [oneStepA_app hl W]
theorem runK_sound (hfol : P.follows .mixedOrders = true) (hin : okIn P inl = true) : ∀ (k : Nat) (β : List Nat) (s : KS), P.funcs[s.f]? = some s.fn → OkSt P s.m.hp s.lock s.st → (∀ ν, HsK P R0 w0 L (β ++ ν) (runK P (β ++ ν) inl k s)) → HsK P R0 w0 L β s
  | 0, β, s, _, _, h => by
    have := h []
    rw [List.append_nil] at this
    exact this
  | k + 1, β, s, hf, O, h => by
    refine ⟨fun w H W => ?_⟩
    have hl := H.len
    cases hs : stepK P β inl s with
    | none =>
      have h0 := h []
      rw [List.append_nil] at h0
      have e : runK P β inl (k + 1) s = s := by
        show (match stepK P β inl s with | some s' => runK P β inl k s' | none => s) = s
        rw [hs]
      rw [e] at h0
      exact h0.go w H W
    | some s' =>
      have h' : ∀ ν, HsK P R0 w0 L (β ++ ν) (runK P (β ++ ν) inl k s') := fun ν => by
        have h0 := h ν
        have e : runK P (β ++ ν) inl (k + 1) s = runK P (β ++ ν) inl k s' := by
          show (match stepK P (β ++ ν) inl s with | some s' => runK P (β ++ ν) inl k s' | none => s) = _
          rw [stepK_app hl W, hs]
        rw [e] at h0
        exact h0
      have ih := runK_sound hfol hin k
      unfold stepK at hs
      split at hs
      · rename_i hr
        split at hs
        · rename_i m' hc
          injection hs with hs; subst hs
          refine (condK_sound hfol hc ?_).go w H W
          exact ih β ⟨s.st, s.f, s.fn, m', s.lock⟩ hf (by rw [condK_hp hc]; exact O) h'
        · split at hs
          · rename_i m' hc
            injection hs with hs; subst hs
            obtain ⟨h1, h2, h3⟩ := ctl_sound (f := s.f) (R := KR P R0 w0 L β s.st) (n := s.fn.ntmps) (β := β) (w := w) W hr hc
            exact h3 ((ih β ⟨s.st, s.f, s.fn, m', s.lock⟩ hf (by rw [h1]; exact O) h').go w (by rw [h1]; exact H) h2)
          · split at hs
            · cases hs
            · rename_i fr st hst
              split at hs
              · rename_i v hv
                split at hs
                · rename_i hwf
                  injection hs with hs; subst hs
                  rw [hst] at O ⊢
                  obtain ⟨g1, g2, g3, g4⟩ := O
                  have er : resOf P s.fn s.fn.ntmps s.m = v := by unfold resOf; rw [hv]; rfl
                  have key : Hs P fr.f (KR P R0 w0 L β st) fr.fn.ntmps w0 L β (fr.m.put (dstOf fr.m) (resOf P s.fn s.fn.ntmps s.m) s.m.hp) := by
                    rw [er]
                    exact ih β ⟨st, fr.f, fr.fn, fr.m.put (dstOf fr.m) v s.m.hp, fr.lock⟩ g1 (g4.mono g2 fun k hk => (g3 k (by simp [hk])).2) h'
                  have hq : fr.m.hp.length ≤ β.length := by omega
                  refine (Hs.retJ (n := s.fn.ntmps) (f := fr.f) (R := KR P R0 w0 L β st) (n0 := fr.fn.ntmps) (β0 := β.take fr.m.hp.length) (m0 := fr.m) hf ?_ ?_ ?_ key).go w H W
                  · rw [hv, er, hwf]
                    simp only [Option.isSome_some, Bool.true_and, Nat.ble_eq]
                    exact g2
                  · rw [List.length_take, Nat.min_eq_left hq, List.take_append_drop]
                  · exact fun k hk => (g3 k (by simp [hk])).2
                · cases hs
              · cases hs
      · split at hs
        · rename_i m' hc
          injection hs with hs; subst hs
          obtain ⟨h1, h2, h3⟩ := strK_sound (P := P) (f := s.f) (R := KR P R0 w0 L β s.st) hc H W
          exact h3 ((ih β ⟨s.st, s.f, s.fn, m', s.lock⟩ hf (by rw [h1]; exact O) h').go w (by rw [h1]; exact H) h2)
        split at hs
        · rename_i F fn xs hgo
          split at hs
          · rename_i hle
            injection hs with hs; subst hs
            obtain ⟨c1, c2, c3, c4⟩ := goK_spec (β := β) hin hgo
            refine (Hs.inl c2 xs c1 ?_ ?_).go w H W
            · simp only [hle, c3, Bool.true_and]
              simp only [startM, SM.wf, Bool.and_eq_true]
              exact ⟨slotsOf_wf (c4 W), SM.wf_hp W⟩
            · have := ih β ⟨⟨s.f, s.fn, s.m, s.lock⟩ :: s.st, F, fn, startM fn xs s.m.hp, rdOf s.m ++ s.lock⟩ c2 ⟨hf, Nat.le_refl _, fun k hk => ⟨hk, fun b hb => hb⟩, O⟩ h'
              unfold HsK KR at this
              dsimp only at this
              rw [List.take_of_length_le (by omega)] at this
              exact this
          · cases hs
        · split at hs
          · rename_i hfree
            split at hs
            · rename_i m' hstep
              injection hs with hs; subst hs
              have hlen := oneStepA_len hstep
              have hkeep := oneStepA_keep hfree hstep
              refine oneStepA_sound H W hstep fun ν w' H' W' => ?_
              have := (ih (β ++ ν) ⟨s.st, s.f, s.fn, m', s.lock⟩ hf (O.mono hlen hkeep) (fun ν' => by
                rw [List.append_assoc]
                exact h' (ν ++ ν'))).go w' H' W'
              rw [KR_app O (by omega)] at this
              exact this
            · cases hs
          · cases hs
/-- A run with its calls, back from all of them. -/
theorem Hs.runK (inl : List FuncId) (k j : Nat) {fn : Func} (hf : P.funcs[f]? = some fn) (hn : fn.ntmps = n) (hin : (P.follows .mixedOrders && okIn P inl) = true) (hj : ∀ ν, Nat.beq (Go.Proofs.YtdplnedpbkpgpaaGreatDoor.runK P (β ++ ν) inl k ⟨[], f, fn, m, []⟩).m.hp.length (β.length + j) = true) (he : ∀ ν, Go.Proofs.YtdplnedpbkpgpaaGreatDoor.runK P (β ++ ν) inl k ⟨[], f, fn, m, []⟩ = ⟨[], f, fn, (Go.Proofs.YtdplnedpbkpgpaaGreatDoor.runK P (β ++ ν) inl k ⟨[], f, fn, m, []⟩).m, []⟩) (h : ∀ ν : List Nat, ν.length = j → Hs P f R n w0 L (β ++ ν) (Go.Proofs.YtdplnedpbkpgpaaGreatDoor.runK P (β ++ ν) inl k ⟨[], f, fn, m, []⟩).m) : Hs P f R n w0 L β m := by
  simp only [Bool.and_eq_true] at hin
  subst hn
  refine runK_sound (R0 := R) (w0 := w0) (L := L) hin.1 hin.2 k β ⟨[], f, fn, m, []⟩ hf trivial fun ν => ?_
  have hl := Nat.eq_of_beq_eq_true (hj ν)
  rw [he ν]
  refine ⟨fun w H W => ?_⟩
  have e : ν.length = j := by
    have := H.len
    dsimp only at this
    rw [hl, List.length_append] at this
    omega
  exact (h ν e).go w H W
end
end Go.Proofs.YtdplnedpbkpgpaaGreatDoor
