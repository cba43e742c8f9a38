/- A region that draws its order: some operations that yield in whatever world have been taken; the rest are heads (they change no world) and a chain that waits for every head: it is enough to go through the heads in one order, then through the chain. Over any program; no condition · A region that draws its order, next to a fact on the world that holds until the region's last part begins: whatever yields one value in all worlds with that fact may be taken first. Over any program; no condition. -/
import Derived.StillTailTactics
import Derived.Deep.QuietTactic
namespace Go.Proofs.YtmmcamkmglpgiaaGreatDoor
set_option linter.all false

section
variable {P : Program} {ops : Array Oper} {md : Region.Mode} {w : World}

/-- Each head that has not been taken is waited for by a later head, or by the chain's first. -/
def sinkL (md : Region.Mode) (ops : Array Oper) (l0 : Array Bool) (ts : List Nat) : Bool :=
  (List.range ops.size).all fun i => ts.contains i || l0.getD i true || (List.range ops.size).any fun j => decide (i < j) && (!ts.contains j || ts.head? == some j) && Region.waitsFor md ops j i
/-- Each of the chain waits for the one ahead of it. -/
def chainL (md : Region.Mode) (ops : Array Oper) : List Nat → Bool
  | t :: u :: r => Region.waitsFor md ops u t && chainL md ops (u :: r)
  | _ => true
structure InvL (md : Region.Mode) (ops : Array Oper) (l0 : Array Bool) (ts : List Nat) (listed : Array Bool) : Prop where
  size : listed.size = ops.size
  closed : ∀ j oj, ops[j]? = some oj → listed.getD j false = true → ∀ e ∈ oj.after, Region.binds md e = true → listed.getD e.on false = true
  tail : ∀ t ∈ ts, listed.getD t true = false
  above : ∀ i, l0.getD i true = true → i < ops.size → listed.getD i false = true

theorem InvL.set {l0 : Array Bool} {ts : List Nat} {i : Nat} {listed : Array Bool} (inv : InvL md ops l0 ts listed) (hi : i ∈ Region.ready md ops listed) (hin : ts.contains i = false) : InvL md ops l0 ts (listed.setIfInBounds i true) := by
  obtain ⟨_, oi, hoi, hall⟩ := mem_ready.1 hi
  refine ⟨by simp [inv.size], fun j oj hj hl e he hb => ?_, fun t ht => ?_, fun j hj hjl => getD_set_true (inv.above j hj hjl)⟩
  · by_cases hij : i = j
    · subst hij
      obtain rfl : oj = oi := Option.some.inj (hj.symm.trans hoi)
      exact getD_set_true (hall e he hb)
    · rw [getD_set_ne false hij] at hl
      exact getD_set_true (inv.closed j oj hj hl e he hb)
  · have : i ≠ t := fun h => by subst h; simp at hin; exact hin ht
    rw [getD_set_ne true this]; exact inv.tail t ht

theorem chainL_spec {ts : List Nat} (h : chainL md ops ts = true) : ∀ t ∈ ts, ts.head? = some t ∨ ∃ u ∈ ts, Region.waitsFor md ops t u = true := by
  induction ts with
  | nil => intro t ht; cases ht
  | cons a r ih =>
    cases r with
    | nil => intro t ht; simp at ht; subst ht; exact .inl rfl
    | cons b r =>
      simp only [chainL, Bool.and_eq_true] at h
      intro t ht
      rcases List.mem_cons.1 ht with rfl | ht
      · exact .inl rfl
      · rcases ih h.2 t ht with e | ⟨u, hu, hw⟩
        · simp at e; subst e
          exact .inr ⟨a, List.mem_cons_self, h.1⟩
        · exact .inr ⟨u, List.mem_cons_of_mem _ hu, hw⟩

theorem tailL_waits {l0 : Array Bool} {ts : List Nat} {listed : Array Bool} (hs : sinkL md ops l0 ts = true) (hc : chainL md ops ts = true) (inv : InvL md ops l0 ts listed) :
    ∀ (d i : Nat), ops.size - i = d → i < ops.size → ts.contains i = false → listed.getD i true = false → ∀ t ∈ ts, t ∉ Region.ready md ops listed := by
  intro d
  induction d using Nat.strongRecOn with
  | _ d ih =>
    intro i hd hi hin hun t ht hr
    obtain ⟨_, ot, hot, hall⟩ := mem_ready.1 hr
    rcases chainL_spec hc t ht with hh | ⟨u, hu, hw⟩
    · have h1 := List.all_eq_true.1 hs i (List.mem_range.2 hi)
      simp only [Bool.or_eq_true, hin, Bool.false_eq_true, false_or] at h1
      rcases h1 with h1 | h1
      · have := inv.above i h1 hi
        rw [getD_both hun] at this
        cases this
      · obtain ⟨j, hj, hj2⟩ := List.any_eq_true.1 h1
        have hjl := List.mem_range.1 hj
        simp only [Bool.and_eq_true, decide_eq_true_eq, Bool.or_eq_true, Bool.not_eq_true', beq_iff_eq] at hj2
        obtain ⟨⟨hij, hk⟩, hw⟩ := hj2
        obtain ⟨oj, hoj, e, he, hb, hon⟩ := Region.waitsFor_spec hw
        by_cases hjt : j = t
        · subst hjt
          obtain rfl : oj = ot := Option.some.inj (hoj.symm.trans hot)
          have h2 := hall e he hb
          rw [hon, getD_both hun] at h2
          cases h2
        · rcases hk with hk | hk
          · cases hl : listed.getD j false with
            | true =>
              have h2 := inv.closed j oj hoj hl e he hb
              rw [hon, getD_both hun] at h2
              cases h2
            | false => exact ih (ops.size - j) (by omega) j rfl hjl hk (getD_in (by rw [inv.size]; exact hjl) hl) t ht hr
          · rw [hh] at hk
            exact hjt (Option.some.inj hk).symm
    · obtain ⟨o', ho', e, he, hb, hon⟩ := Region.waitsFor_spec hw
      obtain rfl : o' = ot := Option.some.inj (ho'.symm.trans hot)
      have h2 := hall e he hb
      rw [hon, getD_both (inv.tail u hu)] at h2
      cases h2

/-- Every way through the heads. -/
def wpAnyN (P : Program) (md : Region.Mode) (ops : Array Oper) (w : World) (ts : List Nat) (L : Array Bool → Act → Prop) : Nat → Array Bool → Act → Prop
  | 0, listed, a => L listed a
  | f + 1, listed, a => Region.ready md ops listed ≠ [] ∧ ∀ i ∈ Region.ready md ops listed, ts.contains i = false ∧ stOp P ops w i (wpAnyN P md ops w ts L f (listed.setIfInBounds i true)) a

theorem wpAny_of_N {ts : List Nat} {g : Nat} {L : Array Bool → Act → Prop} {Q' : Exit → Act → World → Prop} (hL : ∀ listed a, L listed a → wpAny P md ops Q' g listed a w) :
    ∀ (f : Nat) (listed : Array Bool) (a : Act), wpAnyN P md ops w ts L f listed a → wpAny P md ops Q' (f + g) listed a w
  | 0, listed, a, h => by rw [Nat.zero_add]; exact hL _ _ h
  | f + 1, listed, a, h => by
    rw [show f + 1 + g = (f + g) + 1 by omega]
    exact ⟨fun h0 => absurd h0 h.1, fun i hi => wpOp_of_stOp (fun a' h' => wpAny_of_N hL f _ a' h') (h.2 i hi).2⟩

theorem wpAnyN_first {l0 : Array Bool} {ts : List Nat} {i : Nat} {oi : Oper} {v : Value} {L : Array Bool → Act → Prop} (hi : ops[i]? = some oi) (hsel : ∀ (j : Nat) (o : Oper) cs b, ops[j]? = some o → o.op ≠ .select cs b)
    (hs : sinkL md ops l0 ts = true) (hc : chainL md ops ts = true) (hin : ts.contains i = false)
    (hdone : ∀ listed a, L listed a → ∀ j ∈ Region.ready md ops listed, ts.contains j = true) :
    ∀ (f : Nat) (listed : Array Bool) (a : Act), InvL md ops l0 ts listed →
      (∀ j oj, ops[j]? = some oj → j ≠ i → listed.getD j true = false → (∀ e ∈ oj.after, Region.binds md e = true → e.on ≠ i) → oi.apart ops oj = true) →
      i ∈ Region.ready md ops listed → YieldsAt P ops w oi v a →
      wpAnyN P md ops w ts L f (listed.setIfInBounds i true) (a.put oi.dst v) → wpAnyN P md ops w ts L (f + 1) listed a := by
  have hil : i < ops.size := (Array.getElem?_eq_some_iff.1 hi).1
  have head : ∀ (listed : Array Bool), InvL md ops l0 ts listed → listed.getD i true = false → ∀ j ∈ Region.ready md ops listed, ts.contains j = false := fun listed inv hun j hj => by
    cases h : ts.contains j with
    | false => rfl
    | true => exact absurd hj (tailL_waits hs hc inv _ i rfl hil hin hun j (by simpa using h))
  intro f
  induction f with
  | zero =>
    intro listed a inv _ hr hy H
    have hun := (mem_ready.1 hr).1
    refine ⟨fun h => (by rw [h] at hr; cases hr), fun j hj => ⟨head listed inv hun j hj, ?_⟩⟩
    by_cases hji : j = i
    · subst hji; exact hy.stOp hi H
    · have h1 := hdone _ _ H j (ready_mono hj hji)
      rw [head listed inv hun j hj] at h1
      cases h1
  | succ f ih =>
    intro listed a inv hfree hr hy H
    have hun := (mem_ready.1 hr).1
    refine ⟨fun h => (by rw [h] at hr; cases hr), fun j hj => ⟨head listed inv hun j hj, ?_⟩⟩
    by_cases hji : j = i
    · subst hji; exact hy.stOp hi H
    · have h1 := (H.2 j (ready_mono hj hji)).2
      obtain ⟨hjun, oj, hoj, hall⟩ := mem_ready.1 hj
      have hnot : ∀ e ∈ oj.after, Region.binds md e = true → e.on ≠ i := fun e he hb heq => by
        have h1 := hall e he hb
        rw [heq, getD_both hun] at h1
        cases h1
      have h2 := stOp_put hoj (hfree j oj hoj hji hjun hnot) (fun cs b => hsel i oi cs b hi) (fun cs b => hsel j oj cs b hoj) hy h1
      refine stOp_mono (fun a' h3 => ih (listed.setIfInBounds j true) a' (inv.set hj (head listed inv hun j hj)) (fun k ok hk hki hun' hno => ?_) (ready_mono hr (Ne.symm hji)) h3.1 ?_) h2
      · refine hfree k ok hk hki ?_ hno
        by_cases hjk : j = k
        · subst hjk; exact hjun
        · rw [getD_set_ne true hjk] at hun'; exact hun'
      · rw [Array.setIfInBounds_comm _ _ hji]
        exact h3.2

/-- The chain, one behind the other. -/
def seqL (md : Region.Mode) (ops : Array Oper) : List Nat → Array Bool → Bool
  | [], listed => (Region.ready md ops listed).isEmpty
  | t :: r, listed => decide (Region.ready md ops listed = [t]) && seqL md ops r (listed.setIfInBounds t true)
def pick (ops : Array Oper) (is : List Nat) : List Oper := is.filterMap fun i => ops[i]?
theorem wpAny_of_seqL {Q' : Exit → Act → World → Prop} : ∀ (ts : List Nat) (listed : Array Bool) (a : Act) (w : World), seqL md ops ts listed = true → wpList P ops Q' (pick ops ts) a w → wpAny P md ops Q' ts.length listed a w
  | [], listed, a, w, hB, h => ⟨by simpa [seqL] using hB, h⟩
  | t :: r, listed, a, w, hB, h => by
    simp only [seqL, Bool.and_eq_true, decide_eq_true_eq] at hB
    refine ⟨fun h1 => (by rw [hB.1] at h1; cases h1), fun i hi => ?_⟩
    rw [hB.1] at hi
    obtain rfl : i = t := by simpa using hi
    have hr : i ∈ Region.ready md ops listed := by rw [hB.1]; simp
    obtain ⟨_, o, ho, _⟩ := mem_ready.1 hr
    have hp : pick ops (i :: r) = o :: pick ops r := by simp [pick, ho]
    rw [hp] at h
    have hw : wpOp P ops Q' i (wpList P ops Q' (pick ops r)) a w := by unfold wpOp; simp only [ho]; exact h
    exact wpOp_mono (fun a' w' h' => wpAny_of_seqL r _ a' w' hB.2 h') hw

/-- The heads in one order, then the chain. -/
def lexL (md : Region.Mode) (ops : Array Oper) (ts : List Nat) : List Nat → Array Bool → Bool
  | [], listed => seqL md ops ts listed
  | i :: r, listed => (Region.ready md ops listed).contains i && !ts.contains i && Region.free md ops listed i && lexL md ops ts r (listed.setIfInBounds i true)
theorem seqL_ready {ts : List Nat} {listed : Array Bool} (h : seqL md ops ts listed = true) : ∀ j ∈ Region.ready md ops listed, ts.contains j = true := by
  cases ts with
  | nil => intro j hj; simp only [seqL, List.isEmpty_iff] at h; rw [h] at hj; cases hj
  | cons t r =>
    intro j hj
    simp only [seqL, Bool.and_eq_true, decide_eq_true_eq] at h
    rw [h.1] at hj
    obtain rfl : j = t := by simpa using hj
    simp
theorem wpAnyN_lex {l0 : Array Bool} {ts : List Nat} {Lq : Act → Prop} (hsel : Region.noSelect ops = true) (hs : sinkL md ops l0 ts = true) (hc : chainL md ops ts = true) :
    ∀ (hd : List Nat) (listed : Array Bool) (a : Act), InvL md ops l0 ts listed → lexL md ops ts hd listed = true → wpStill P ops w Lq (pick ops hd) a →
    wpAnyN P md ops w ts (fun listed' a' => seqL md ops ts listed' = true ∧ Lq a') hd.length listed a
  | [], listed, a, _, hB, h => ⟨hB, h⟩
  | i :: r, listed, a, inv, hB, h => by
    simp only [lexL, Bool.and_eq_true, Bool.not_eq_true'] at hB
    obtain ⟨⟨⟨hr, hin⟩, hf⟩, hB'⟩ := hB
    have hr' : i ∈ Region.ready md ops listed := by simpa using hr
    obtain ⟨_, o, h0, _⟩ := mem_ready.1 hr'
    have hp : pick ops (i :: r) = o :: pick ops r := by simp [pick, h0]
    rw [hp] at h
    have hst : stOp P ops w i (wpStill P ops w Lq (pick ops r)) a := by unfold stOp; simp only [h0]; exact h
    obtain ⟨v, hy, hK⟩ := yieldsAt_of_stOp h0 hst
    exact wpAnyN_first h0 (Region.noSelect_spec hsel) hs hc hin (fun listed' a' hL => seqL_ready hL.1) r.length listed a inv (Region.free_spec h0 hf) hr' hy
      (wpAnyN_lex hsel hs hc r _ _ (inv.set hr' hin) hB' hK)

def closedL (md : Region.Mode) (ops : Array Oper) (listed : Array Bool) : Bool :=
  (List.range ops.size).all fun j => !listed.getD j false || match ops[j]? with
    | some oj => oj.after.all fun e => !Region.binds md e || listed.getD e.on false
    | none => true
def mixL (md : Region.Mode) (ops : Array Oper) (listed : Array Bool) (hd ts : List Nat) : Bool :=
  Region.noSelect ops && decide (listed.size = ops.size) && closedL md ops listed && (ts.all fun t => !listed.getD t true) && sinkL md ops listed ts && chainL md ops ts && lexL md ops ts hd listed

/-- In the midst of a region that draws: the heads hd in one order, then the chain ts. -/
theorem wpAny_mix {Q' : Exit → Act → World → Prop} {fuel : Nat} {listed : Array Bool} {a : Act} (hd ts : List Nat) (hf : fuel = hd.length + ts.length) (hB : mixL md ops listed hd ts = true)
    (h : wpStill P ops w (fun a' => wpList P ops Q' (pick ops ts) a' w) (pick ops hd) a) : wpAny P md ops Q' fuel listed a w := by
  subst hf
  simp only [mixL, Bool.and_eq_true, decide_eq_true_eq] at hB
  obtain ⟨⟨⟨⟨⟨⟨hsel, hsz⟩, hcl⟩, htl⟩, hs⟩, hc⟩, hlex⟩ := hB
  have inv : InvL md ops listed ts listed := by
    refine ⟨hsz, fun j oj hj hl e he hb => ?_, fun t ht => ?_, fun i hi hil => ?_⟩
    · have hjl : j < ops.size := (Array.getElem?_eq_some_iff.1 hj).1
      have h1 := List.all_eq_true.1 hcl j (List.mem_range.2 hjl)
      simp only [hl, hj, Bool.not_true, Bool.false_or, Array.all_eq_true_iff_forall_mem, Bool.or_eq_true, Bool.not_eq_true'] at h1
      rcases h1 e he with h2 | h2
      · rw [hb] at h2; cases h2
      · exact h2
    · have := List.all_eq_true.1 htl t ht
      simpa using this
    · have hls : i < listed.size := by rw [hsz]; exact hil
      simpa [hls] using hi
  exact wpAny_of_N (L := fun listed' a' => seqL md ops ts listed' = true ∧ wpList P ops Q' (pick ops ts) a' w) (fun listed' a' hL => wpAny_of_seqL ts listed' a' w hL.1 hL.2) hd.length listed a (wpAnyN_lex hsel hs hc hd listed a inv hlex h)
end
end Go.Proofs.YtmmcamkmglpgiaaGreatDoor

namespace Go.Proofs.YtmmcamkmglpgiaaGreatDoor
set_option linter.all false

section
variable {P : Program} {ops : Array Oper} {md : Region.Mode} {Q : Exit → Act → World → Prop} {I : World → Prop} {es : List Nat}

/-- None of the last part has been done. -/
def noE (es : List Nat) (listed : Array Bool) : Prop := ∀ e ∈ es, listed.getD e true = false
def wpAnyE (P : Program) (md : Region.Mode) (ops : Array Oper) (Q : Exit → Act → World → Prop) (I : World → Prop) (es : List Nat) : Nat → Array Bool → Act → World → Prop
  | 0, listed, a, w => (noE es listed → I w) ∧ Region.ready md ops listed = [] ∧ Q .normal a w
  | f + 1, listed, a, w => (noE es listed → I w) ∧ (Region.ready md ops listed = [] → Q .normal a w) ∧ ∀ i ∈ Region.ready md ops listed, wpOp P ops Q i (wpAnyE P md ops Q I es f (listed.setIfInBounds i true)) a w
theorem wpAnyE.inv {f : Nat} {listed : Array Bool} {a : Act} {w : World} (h : wpAnyE P md ops Q I es f listed a w) : noE es listed → I w := by cases f <;> exact h.1
theorem wpAny_of_E : ∀ (f : Nat) (listed : Array Bool) (a : Act) (w : World), wpAnyE P md ops Q I es f listed a w → wpAny P md ops Q f listed a w
  | 0, _, _, _, h => h.2
  | f + 1, _, _, _, h => ⟨h.2.1, fun i hi => wpOp_mono (fun a' w' h' => wpAny_of_E f _ a' w' h') (h.2.2 i hi)⟩

/-- One operation ahead of another one that is apart from it. -/
theorem wpOp_ahead (Y : Act → Prop) {j : Nat} {oi oj : Oper} {v : Value} (hj : ops[j]? = some oj) (hap : oi.apart ops oj = true) (hsj : ∀ cs b, oj.op ≠ .select cs b)
    (keep : ∀ a, Y a → ∀ u, Y (a.put oj.dst u)) (keepD : ∀ a, Y a → ∀ d, Y { a with defers := d :: a.defers })
    (hQ : ∀ c a w, Q (.panic c) (a.put oi.dst v) w → Q (.panic c) a w) {K : Act → World → Prop} {a : Act} {w : World}
    (hy : Y a) (h : wpOp P ops Q j K (a.put oi.dst v) w) : wpOp P ops Q j (fun a' w' => Y a' ∧ K (a'.put oi.dst v) w') a w := by
  obtain ⟨h1, h2, _⟩ := Oper.apart_spec hap
  unfold wpOp at *
  simp only [hj] at *
  rw [wanted_put oj a oi.dst v h1] at h
  by_cases hw : Region.wanted oj (yielded ops a.tmps) = true
  · simp only [hw, if_true] at h ⊢
    rcases h with h | ⟨hasks, hlets⟩
    · refine .inl ?_
      unfold Oper.wp at *
      rw [execOp_put oj hsj a oi.dst v h1] at h
      generalize (execOp a.eval oj).run P w = r at *
      cases r with
      | ok n w' =>
        cases n <;> simp only [Oper.upon] at h ⊢
        case value u => exact ⟨keep a hy u, by rw [← Act.put_comm a v u h2]; exact h⟩
        case skip => exact ⟨keep a hy _, by rw [← Act.put_comm a v undef h2]; exact h⟩
        case defer d => exact ⟨keep _ (keepD a hy d) _, by rw [← Act.put_comm _ v undef h2, ← Act.put_defers]; exact h⟩
        case row row args => exact Rows.mono h fun u w'' he => ⟨keep a hy u, by rw [← Act.put_comm a v u h2]; exact he⟩
        case enter f args =>
          refine Calls.mono h fun e w'' he => ?_
          cases e with
          | returned u => exact ⟨keep a hy u, by rw [← Act.put_comm a v u h2]; exact he⟩
          | panicked c => exact hQ _ _ _ he
          | outgrown => exact he
      | halt x w' =>
        cases x <;> simp only [Oper.upon] at h ⊢
        case panic u => exact hQ _ _ _ h
    · exact .inr ⟨by unfold Oper.asks at *; rw [execOp_put oj hsj a oi.dst v h1] at hasks; exact hasks, hlets⟩
  · simp only [hw] at h ⊢
    exact ⟨keep a hy _, by rw [← Act.put_comm a v undef h2]; exact h⟩

/-- j waits for i, at once or through others. -/
def reachL (md : Region.Mode) (ops : Array Oper) : Nat → Nat → Nat → Bool
  | 0, _, _ => false
  | f + 1, j, i => match ops[j]? with
    | some oj => oj.after.any fun e => Region.binds md e && (e.on == i || reachL md ops f e.on i)
    | none => false
def Closed (md : Region.Mode) (ops : Array Oper) (listed : Array Bool) : Prop :=
  listed.size = ops.size ∧ ∀ j oj, ops[j]? = some oj → listed.getD j false = true → ∀ e ∈ oj.after, Region.binds md e = true → listed.getD e.on false = true
theorem Closed.set {i : Nat} {listed : Array Bool} (inv : Closed md ops listed) (hi : i ∈ Region.ready md ops listed) : Closed md ops (listed.setIfInBounds i true) := by
  obtain ⟨_, oi, hoi, hall⟩ := mem_ready.1 hi
  refine ⟨by simp [inv.1], fun j oj hj hl e he hb => ?_⟩
  by_cases hij : i = j
  · subst hij
    obtain rfl : oj = oi := Option.some.inj (hj.symm.trans hoi)
    exact getD_set_true (hall e he hb)
  · rw [getD_set_ne false hij] at hl
    exact getD_set_true (inv.2 j oj hj hl e he hb)
theorem reachL_listed {listed : Array Bool} (inv : Closed md ops listed) : ∀ (f j i : Nat), reachL md ops f j i = true → listed.getD j false = true → listed.getD i false = true
  | 0, _, _, h, _ => by simp [reachL] at h
  | f + 1, j, i, h, hl => by
    unfold reachL at h
    split at h
    · rename_i oj hj
      obtain ⟨e, he, hb⟩ := Array.any_eq_true'.1 h
      simp only [Bool.and_eq_true, Bool.or_eq_true, beq_iff_eq] at hb
      have h1 := inv.2 j oj hj hl e he hb.1
      rcases hb.2 with h2 | h2
      · rw [← h2]; exact h1
      · exact reachL_listed inv f e.on i h2 h1
    · cases h
theorem reachL_ready {listed : Array Bool} (inv : Closed md ops listed) {f j i : Nat} (h : reachL md ops f j i = true) (hr : j ∈ Region.ready md ops listed) : listed.getD i false = true := by
  obtain ⟨_, oj, hoj, hall⟩ := mem_ready.1 hr
  cases f with
  | zero => simp [reachL] at h
  | succ f =>
    simp only [reachL, hoj] at h
    obtain ⟨e, he, hb⟩ := Array.any_eq_true'.1 h
    simp only [Bool.and_eq_true, Bool.or_eq_true, beq_iff_eq] at hb
    have h1 := hall e he hb.1
    rcases hb.2 with h2 | h2
    · rw [← h2]; exact h1
    · exact reachL_listed inv f e.on i h2 h1

theorem yieldsAt_keep {w : World} {oi oj : Oper} {v : Value} {a : Act} (hap : oi.apart ops oj = true) (hsi : ∀ cs b, oi.op ≠ .select cs b) (hy : YieldsAt P ops w oi v a) (u : Value) : YieldsAt P ops w oi v (a.put oj.dst u) := by
  obtain ⟨_, _, h3⟩ := Oper.apart_spec hap
  exact hy.of_same (execOp_put oi hsi a oj.dst u h3) (wanted_put oi a oj.dst u h3)

theorem takeE {i : Nat} {oi : Oper} {v : Value} (hi : ops[i]? = some oi) (hsel : ∀ (j : Nat) (o : Oper) cs b, ops[j]? = some o → o.op ≠ .select cs b)
    (hQ : ∀ c a w, Q (.panic c) (a.put oi.dst v) w → Q (.panic c) a w) (F : Nat) (hb : ∀ e ∈ es, reachL md ops F e i = true) :
    ∀ (f : Nat) (listed : Array Bool) (a : Act) (w : World), Closed md ops listed → noE es listed → I w →
      (∀ j oj, ops[j]? = some oj → j ≠ i → listed.getD j true = false → (∀ e ∈ oj.after, Region.binds md e = true → e.on ≠ i) → oi.apart ops oj = true) →
      i ∈ Region.ready md ops listed → (∀ w', I w' → YieldsAt P ops w' oi v a) →
      wpAnyE P md ops Q I es f (listed.setIfInBounds i true) (a.put oi.dst v) w → wpAnyE P md ops Q I es (f + 1) listed a w := by
  intro f
  induction f with
  | zero =>
    intro listed a w inv hn hI _ hr hy H
    refine ⟨fun _ => hI, fun h => (by rw [h] at hr; cases hr), fun j hj => ?_⟩
    by_cases hji : j = i
    · subst hji
      exact wpOp_of_stOp (K := fun a' => wpAnyE P md ops Q I es 0 (listed.setIfInBounds j true) a' w) (fun _ h => h) ((hy w hI).stOp hi H)
    · have := ready_mono hj hji
      rw [H.2.1] at this
      cases this
  | succ f ih =>
    intro listed a w inv hn hI hfree hr hy H
    have hun := (mem_ready.1 hr).1
    refine ⟨fun _ => hI, fun h => (by rw [h] at hr; cases hr), fun j hj => ?_⟩
    by_cases hji : j = i
    · subst hji
      exact wpOp_of_stOp (K := fun a' => wpAnyE P md ops Q I es (f + 1) (listed.setIfInBounds j true) a' w) (fun _ h => h) ((hy w hI).stOp hi H)
    · have h1 := H.2.2 j (ready_mono hj hji)
      obtain ⟨hjun, oj, hoj, hall⟩ := mem_ready.1 hj
      have hjE : j ∉ es := fun he => by
        have := reachL_ready inv (hb j he) hj
        rw [getD_both hun] at this
        cases this
      have hnot : ∀ e ∈ oj.after, Region.binds md e = true → e.on ≠ i := fun e he hbb heq => by
        have h1 := hall e he hbb
        rw [heq, getD_both hun] at h1
        cases h1
      have hap := hfree j oj hoj hji hjun hnot
      have h2 := wpOp_ahead (Y := fun a' => ∀ w', I w' → YieldsAt P ops w' oi v a') hoj hap (fun cs b => hsel j oj cs b hoj) (fun a' h u w' hw' => yieldsAt_keep hap (fun cs b => hsel i oi cs b hi) (h w' hw') u)
        (fun a' h d w' hw' => (h w' hw').of_same rfl rfl) hQ hy h1
      refine wpOp_mono (fun a' w' h3 => ?_) h2
      have hn2 : noE es (listed.setIfInBounds j true) := fun e he => by
        have : j ≠ e := fun h => hjE (h ▸ he)
        rw [getD_set_ne true this]; exact hn e he
      have hI' : I w' := h3.2.inv (fun e he => by
        have h4 : j ≠ e := fun h => hjE (h ▸ he)
        have h5 : i ≠ e := fun h => by
          subst h
          have := hb i he
          exact absurd (reachL_ready inv this hr) (by rw [getD_both hun]; simp)
        rw [getD_set_ne true h4, getD_set_ne true h5]; exact hn e he)
      refine ih (listed.setIfInBounds j true) a' w' (inv.set hj) hn2 hI' (fun k ok hk hki hun' hno => ?_) (ready_mono hr (Ne.symm hji)) h3.1 ?_
      · refine hfree k ok hk hki ?_ hno
        by_cases hjk : j = k
        · subst hjk; exact hjun
        · rw [getD_set_ne true hjk] at hun'; exact hun'
      · rw [Array.setIfInBounds_comm _ _ hji]
        exact h3.2

def takeB (md : Region.Mode) (ops : Array Oper) (es : List Nat) (listed : Array Bool) (i : Nat) : Bool :=
  Region.noSelect ops && decide (listed.size = ops.size) && closedL md ops listed && (es.all fun e => !listed.getD e true) && (es.all fun e => reachL md ops ops.size e i) && (Region.ready md ops listed).contains i && Region.free md ops listed i
theorem closedL_spec {listed : Array Bool} (hsz : listed.size = ops.size) (hcl : closedL md ops listed = true) : Closed md ops listed := by
  refine ⟨hsz, fun j oj hj hl e he hb => ?_⟩
  have hjl : j < ops.size := (Array.getElem?_eq_some_iff.1 hj).1
  have h1 := List.all_eq_true.1 hcl j (List.mem_range.2 hjl)
  simp only [hl, hj, Bool.not_true, Bool.false_or, Array.all_eq_true_iff_forall_mem, Bool.or_eq_true, Bool.not_eq_true'] at h1
  rcases h1 e he with h2 | h2
  · rw [hb] at h2; cases h2
  · exact h2
/-- One operation taken first: it yields v in whatever world has the fact. -/
theorem wpAnyE_take {f : Nat} {listed : Array Bool} {a : Act} {w : World} (i : Nat) {oi : Oper} {v : Value} (hi : ops[i]? = some oi) (hB : takeB md ops es listed i = true) (hQ : ∀ c a w, Q (.panic c) (a.put oi.dst v) w → Q (.panic c) a w) (hI : I w)
    (hy : ∀ w', I w' → YieldsAt P ops w' oi v a) (h : wpAnyE P md ops Q I es f (listed.setIfInBounds i true) (a.put oi.dst v) w) : wpAnyE P md ops Q I es (f + 1) listed a w := by
  simp only [takeB, Bool.and_eq_true, decide_eq_true_eq] at hB
  obtain ⟨⟨⟨⟨⟨⟨hsel, hsz⟩, hcl⟩, hn⟩, hb⟩, hr⟩, hf⟩ := hB
  exact takeE hi (Region.noSelect_spec hsel) hQ ops.size (fun e he => List.all_eq_true.1 hb e he) f listed a w (closedL_spec hsz hcl) (fun e he => by simpa using List.all_eq_true.1 hn e he) hI (Region.free_spec hi hf) (by simpa using hr) hy h

/-- The chain: behind each of its first n operations the fact must hold. -/
def wpListI (P : Program) (ops : Array Oper) (Q : Exit → Act → World → Prop) (I : World → Prop) : Nat → List Oper → Act → World → Prop
  | 0, l, a, w => wpList P ops Q l a w
  | _ + 1, [], a, w => Q .normal a w
  | n + 1, o :: r, a, w => if Region.wanted o (yielded ops a.tmps) then o.wp P a w (fun a' w' => I w' ∧ wpListI P ops Q I n r a' w') Q else I w ∧ wpListI P ops Q I n r (a.put o.dst undef) w
theorem wpListI_step {n : Nat} {o : Oper} {r : List Oper} {a : Act} {w : World} (h : ∀ K : Act → World → Prop, (∀ a w, I w → wpListI P ops Q I n r a w → K a w) → if Region.wanted o (yielded ops a.tmps) then o.wp P a w K Q else K (a.put o.dst undef) w) : wpListI P ops Q I (n + 1) (o :: r) a w := by
  have := h (fun a' w' => I w' ∧ wpListI P ops Q I n r a' w') (fun a w h1 h2 => ⟨h1, h2⟩)
  unfold wpListI
  exact this
theorem wpListI_zero {l : List Oper} {a : Act} {w : World} (h : wpList P ops Q l a w) : wpListI P ops Q I 0 l a w := h
theorem wpAnyE_rest : ∀ (ts : List Nat) (listed : Array Bool) (a : Act) (w : World), listed.size = ops.size → (noE es listed → I w) → (∀ t ∈ ts, t ∈ es) → seqL md ops ts listed = true → wpList P ops Q (pick ops ts) a w → wpAnyE P md ops Q I es ts.length listed a w
  | [], listed, a, w, _, hI, _, hB, h => ⟨hI, by simpa [seqL] using hB, h⟩
  | t :: r, listed, a, w, hsz, hI, hE, hB, h => by
    simp only [seqL, Bool.and_eq_true, decide_eq_true_eq] at hB
    refine ⟨hI, fun h1 => (by rw [hB.1] at h1; cases h1), fun i hi => ?_⟩
    rw [hB.1] at hi
    obtain rfl : i = t := by simpa using hi
    have hr : i ∈ Region.ready md ops listed := by rw [hB.1]; simp
    obtain ⟨_, o, ho, _⟩ := mem_ready.1 hr
    have hil : i < ops.size := (Array.getElem?_eq_some_iff.1 ho).1
    have hp : pick ops (i :: r) = o :: pick ops r := by simp [pick, ho]
    rw [hp] at h
    have hw : wpOp P ops Q i (wpList P ops Q (pick ops r)) a w := by unfold wpOp; simp only [ho]; exact h
    refine wpOp_mono (fun a' w' h' => wpAnyE_rest r _ a' w' (by simp [hsz]) (fun hn => ?_) (fun t ht => hE t (List.mem_cons_of_mem _ ht)) hB.2 h') hw
    have := hn i (hE i List.mem_cons_self)
    simp [hsz, hil] at this
theorem wpAnyE_seq (rest : List Nat) (hE : ∀ t ∈ rest, t ∈ es) : ∀ (pre : List Nat) (listed : Array Bool) (a : Act) (w : World), listed.size = ops.size → I w → seqL md ops (pre ++ rest) listed = true → wpListI P ops Q I pre.length (pick ops (pre ++ rest)) a w →
    wpAnyE P md ops Q I es (pre.length + rest.length) listed a w
  | [], listed, a, w, hsz, hI, hB, h => by
    have := wpAnyE_rest rest listed a w hsz (fun _ => hI) hE hB h
    simpa using this
  | t :: r, listed, a, w, hsz, hI, hB, h => by
    simp only [List.cons_append, seqL, Bool.and_eq_true, decide_eq_true_eq] at hB
    rw [show (t :: r).length + rest.length = (r.length + rest.length) + 1 by simp; omega]
    refine ⟨fun _ => hI, fun h1 => (by rw [hB.1] at h1; cases h1), fun i hi => ?_⟩
    rw [hB.1] at hi
    obtain rfl : i = t := by simpa using hi
    have hr : i ∈ Region.ready md ops listed := by rw [hB.1]; simp
    obtain ⟨_, o, ho, _⟩ := mem_ready.1 hr
    have hp : pick ops (i :: r ++ rest) = o :: pick ops (r ++ rest) := by simp [pick, ho]
    rw [hp] at h
    have hw : wpOp P ops Q i (fun a' w' => I w' ∧ wpListI P ops Q I r.length (pick ops (r ++ rest)) a' w') a w := by
      unfold wpOp
      simp only [ho]
      simp only [List.length_cons, wpListI] at h
      split at h
      · rename_i hw; simp only [hw, if_true]; exact .inl h
      · rename_i hw; simp only [hw]; exact h
    exact wpOp_mono (fun a' w' h' => wpAnyE_seq rest hE r _ a' w' (by simp [hsz]) h'.1 hB.2 h'.2) hw
/-- All heads taken: the chain, pre with the fact, rest without. -/
theorem wpAnyE_chain {f : Nat} {listed : Array Bool} {a : Act} {w : World} (pre rest : List Nat) (hf : f = pre.length + rest.length) (hB : (decide (listed.size = ops.size) && (rest.all fun t => es.contains t) && seqL md ops (pre ++ rest) listed) = true) (hI : I w)
    (h : wpListI P ops Q I pre.length (pick ops (pre ++ rest)) a w) : wpAnyE P md ops Q I es f listed a w := by
  subst hf
  simp only [Bool.and_eq_true, decide_eq_true_eq] at hB
  obtain ⟨⟨h1, h2⟩, h3⟩ := hB
  exact wpAnyE_seq rest (fun t ht => by simpa using List.all_eq_true.1 h2 t ht) pre listed a w h1 hI h3 h
theorem pick_range (l : List Oper) (d : Nat) : ∀ m, d + m ≤ l.length → pick l.toArray ((List.range m).map (d + ·)) = (l.drop d).take m
  | 0, _ => by simp [pick]
  | m + 1, h => by
    have hx : l[d + m]? = some (l[d + m]'(by omega)) := List.getElem?_eq_getElem (by omega)
    have ih := pick_range l d m (by omega)
    unfold pick at ih ⊢
    rw [List.range_succ, List.map_append, List.filterMap_append, ih, List.take_add_one, List.getElem?_drop, hx]
    simp [hx]
/-- The same where the chain is the region's end. -/
theorem wpAnyE_tail {l : List Oper} {f : Nat} {listed : Array Bool} {a : Act} {w : World} (d : Nat) (pre rest : List Nat) (hf : f = pre.length + rest.length) (hB : (decide (listed.size = l.toArray.size) && (rest.all fun t => es.contains t) && seqL md l.toArray (pre ++ rest) listed) = true)
    (hd : pre ++ rest = (List.range (l.length - d)).map (d + ·)) (hI : I w) (h : wpListI P l.toArray Q I pre.length (l.drop d) a w) : wpAnyE P md l.toArray Q I es f listed a w := by
  refine wpAnyE_chain pre rest hf hB hI ?_
  have e : pick l.toArray (pre ++ rest) = l.drop d := by
    rw [hd]
    by_cases hdl : d ≤ l.length
    · rw [pick_range l d _ (by omega), List.take_of_length_le (by simp)]
    · rw [show l.length - d = 0 by omega, List.drop_of_length_le (by omega)]; rfl
  rw [e]; exact h
/-- A region that draws its order, under a fact that holds until the operations es begin. -/
theorem wp_region_E {id : Nat} {a : Act} {w : World} (I : World → Prop) (es : List Nat) (hm : P.follows .mixedOrders = true) (h : wpAnyE P .any ops Q I es ops.size (Array.replicate ops.size false) a { w with drawn := w.drawn + 1 }) : (Code.region id ops true).wp P Q a w :=
  wp_region_any hm (wpAny_of_E _ _ _ _ h)
end
end Go.Proofs.YtmmcamkmglpgiaaGreatDoor
