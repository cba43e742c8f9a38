/- The machine: calls that are gone into, another world to count from, slices of our own behind a call, an element stored; over any program; no condition · The machine: []byte of a literal; over any program; no condition · The machine: parts of slices, copies, literals appended to, cells of what is only read; over any program; no condition · The machine: a row of ours widened, copied into, made anew with zeros behind; over any program; no condition · The machine: maps of ours, whose entries are known; over any program; no condition · The machine: a run up to the end of a region, several ways brought together; over any program; no condition · The machine: what is only read, from world to world; over any program; no condition · The machine: regions that draw, several ways in them brought together; over any program; no condition · A machine of symbols: a struct is equal to itself. Over any program; no condition. -/
import Derived.Test.YtdplnedpbkpgpaaGreatDoorSsA
import Derived.Lib.Overlaps
import Derived.Lib.AppendZerosOnto
import Derived.MapKept
import Derived.Laws.StructEq
namespace Go.Proofs.YtdplnedpbkpgpaaGreatDoor
set_option linter.all false
set_option maxRecDepth 100000

section
variable {P : Program} {f : FuncId} {R : Ending → World → Prop} {n : Nat} {w0 : World} {L : List Nat} {β : List Nat} {m : SM}
/-! Into a call. -/
theorem Hs.enterM {fn : Func} {args : Array Value} {w : World} (hf : P.funcs[f]? = some fn) (hp : List HB) (xs : List SV) (H : Mem w0 L β hp w) (hc : (Nat.ble xs.length fn.ntmps && (fn.body.isSome && (startM fn xs hp).wf)) = true) (ha : args = (xs.map (SV.den β)).toArray) (h : Hs P f R fn.ntmps w0 L β (startM fn xs hp)) : Calls P f args w R := by
  simp only [Bool.and_eq_true, Nat.ble_eq] at hc
  obtain ⟨h2, h3, h4⟩ := hc
  obtain ⟨c, hb⟩ := Option.isSome_iff_exists.1 h3
  have e : codeOf fn = c := by unfold codeOf; rw [hb]
  have g := h.go w H h4
  unfold Gs startM at g
  dsimp only at g
  rw [e] at g
  refine Goes.enter hf hb _ ?_ g
  subst ha
  exact fr_start β xs fn.ntmps h2
/-- What a call that is gone into hands back. -/
def InR (P : Program) (f : FuncId) (R : Ending → World → Prop) (n : Nat) (w0 : World) (L β : List Nat) (m : SM) : Ending → World → Prop := fun e w' =>
  ∃ (ν : List Nat) (res : SV) (hp' : List HB), e = .returned (res.den (β ++ ν)) ∧ Mem w0 L (β ++ ν) hp' w' ∧ (res.wf hp'.length && (Nat.ble m.hp.length hp'.length && hp'.all (HB.wf hp'.length))) = true ∧ (∀ k ∈ rdOf m, ∀ h, m.hp[k]? = some h → hp'[k]? = some h) ∧ Hs P f R n w0 L (β ++ ν) (m.put (dstOf m) res hp')
theorem Hs.inl {F : FuncId} {fn : Func} (hF : P.funcs[F]? = some fn) (xs : List SV) (hc : callOf P n β m = some (F, (xs.map (SV.den β)).toArray)) (hs : (Nat.ble xs.length fn.ntmps && (fn.body.isSome && (startM fn xs m.hp).wf)) = true)
    (h : Hs P F (InR P f R n w0 L β m) fn.ntmps w0 L β (startM fn xs m.hp)) : Hs P f R n w0 L β m :=
  Hs.call hc fun w H => Hs.enterM hF m.hp xs H hs rfl h
def retS (P : Program) (fn : Func) (n : Nat) (m : SM) : Option SV := match m.r with
  | .no => match (match m.todo with | [] => m.sl.ds.isEmpty | .code .ret :: _ => m.sl.ds.isEmpty | _ => false) with
    | true => match retL P n m fn.results.toList with
      | some [v] => some v.sv
      | some vs => some (.t vs)
      | none => none
    | false => none
  | _ => none
def resOf (P : Program) (fn : Func) (n : Nat) (m : SM) : SV := (retS P fn n m).getD (.t [])
theorem retS_of {fn : Func} {v : SV} (h : retS P fn n m = some v) : retOf P fn n β m = some (v.den β) := by
  unfold retS at h
  unfold retOf
  split at h
  · rename_i hr
    rw [hr]
    dsimp only
    split at h
    · rename_i ht
      split
      rotate_left
      · rename_i h2; exact absurd (ht.symm.trans h2 : true = false) (by decide)
      split at h
      · rename_i v1 hv
        injection h with h; subst h
        rw [hv]
        cases v1 <;> rfl
      · rename_i vs hne hv
        injection h with h; subst h
        rw [hv]
        split
        · rename_i v1 h1
          injection h1 with h1
          exact absurd h1 (hne v1)
        · rename_i h2 h3 h1
          injection h1 with h1; subst h1
          rfl
        · rename_i h1; cases h1
      · cases h
    · cases h
  · cases h
/-- Back into the caller. -/
theorem Hs.retI {F : FuncId} {fn : Func} {n0 : Nat} {β0 : List Nat} {m0 : SM} (hf : P.funcs[F]? = some fn) (hr : ((retS P fn n m).isSome && ((resOf P fn n m).wf m.hp.length && Nat.ble m0.hp.length m.hp.length)) = true) (hβ : β = β0 ++ β.drop β0.length)
    (hrd : (rdOf m0).map (fun k => m.hp[k]?) = (rdOf m0).map (fun k => m0.hp[k]?)) (h : Hs P f R n0 w0 L β (m0.put (dstOf m0) (resOf P fn n m) m.hp)) : Hs P F (InR P f R n0 w0 L β0 m0) n w0 L β m := by
  simp only [Bool.and_eq_true] at hr
  obtain ⟨h1, h2, h3⟩ := hr
  obtain ⟨v, hv⟩ := Option.isSome_iff_exists.1 h1
  have e : resOf P fn n m = v := by unfold resOf; rw [hv]; rfl
  rw [e] at h h2
  refine ⟨fun w H W => ?_⟩
  refine (Hs.ret hf (retS_of hv) (fun w' H' => ?_)).go w H W
  refine ⟨β.drop β0.length, v, m.hp, by rw [← hβ], by rw [← hβ]; exact H', ?_, fun k hk b hb => ?_, by rw [← hβ]; exact h⟩
  · rw [h2, h3, SM.wf_hp W]; rfl
  · have := List.map_inj_left.1 hrd k hk
    rw [this]; exact hb
/-! Another world to count from. -/
def wrN : List Nat → List HB → List Nat
  | b :: β, h :: hp => (if h.wr then (h.blk b).toList else []) ++ wrN β hp
  | _, _ => []
theorem wrN_mem : ∀ {β : List Nat} {hp : List HB} {x : Nat}, x ∈ wrN β hp ↔ ∃ (k : Nat) (h : HB) (b : Nat), hp[k]? = some h ∧ β[k]? = some b ∧ h.wr = true ∧ h.blk b = some x
  | [], hp, x => by cases hp <;> simp [wrN]
  | b :: β, [], x => by simp [wrN]
  | b :: β, h :: hp, x => by
    have ih := wrN_mem (β := β) (hp := hp) (x := x)
    simp only [wrN, List.mem_append, ih]
    constructor
    · rintro (h1 | ⟨k, h', b', h1, h2, h3, h4⟩)
      · split at h1
        · rename_i hw
          rw [Option.mem_toList] at h1
          exact ⟨0, h, b, rfl, rfl, hw, h1⟩
        · cases h1
      · exact ⟨k + 1, h', b', by simpa using h1, by simpa using h2, h3, h4⟩
    · rintro ⟨k, h', b', h1, h2, h3, h4⟩
      cases k with
      | zero =>
        simp at h1 h2; subst h1; subst h2
        left; rw [if_pos h3, Option.mem_toList]; exact h4
      | succ k => exact .inr ⟨k, h', b', by simpa using h1, by simpa using h2, h3, h4⟩
def Back (w0 : World) (L : List Nat) (w1 : World) (L1 : List Nat) : Prop := ∀ w', Only L1 w1 w' → Only L w0 w'
theorem Back.refl : Back w0 L w0 L := fun _ h => h
theorem Back.trans {w1 w2 : World} {L1 L2 : List Nat} (h : Back w0 L w1 L1) (h' : Back w1 L1 w2 L2) : Back w0 L w2 L2 := fun w' O => h w' (h' w' O)
theorem nm_get {β : List Nat} {k b : Nat} (h : β[k]? = some b) : nm β k = b := by simp [nm, List.getD, h]
theorem Mem.back {w1 : World} {hp : List HB} (H : Mem w0 L β hp w1) : Back w0 L w1 (wrN β hp) := fun w' O =>
  H.only.trans O fun x hx => by
    obtain ⟨k, h, b, h1, h2, h3, h4⟩ := wrN_mem.1 hx
    exact H.own k h x h1 h3 (by rw [nm_get h2]; exact h4)
theorem Mem.wrN_lt {w1 : World} {hp : List HB} (H : Mem w0 L β hp w1) : ∀ x ∈ wrN β hp, x < w1.heap.size := fun x hx => by
  obtain ⟨k, h, b, h1, h2, h3, h4⟩ := wrN_mem.1 hx
  have := H.lies k h h1
  rw [nm_get h2] at this
  exact HB.lies_lt this h4
theorem Mem.rebase {w1 : World} {hp : List HB} (H : Mem w0 L β hp w1) : Mem w1 (wrN β hp) β hp w1 :=
  ⟨Only.refl _ _, H.len, H.lies, fun k h x hk hw hx => .inl (wrN_mem.2 ⟨k, h, nm β k, hk, by
    have hk2 := (List.getElem?_eq_some_iff.1 hk).1
    rw [← H.len] at hk2
    rw [nm, List.getD, List.getElem?_eq_getElem hk2]; rfl, hw, hx⟩), H.inj⟩
/-- A call whose answer is only read: all is counted from behind it. -/
theorem Hs.callE {X : Type} (v : X → Value) (Q : X → World → World → Prop) {F : FuncId} {args : Array Value} (hC : ∀ w, Mem w0 L β m.hp w → Calls P F args w fun e w' => ∃ x, e = .returned (v x) ∧ Only [] w w' ∧ Q x w w') (hc : callOf P n β m = some (F, args)) (hrd : rdOf m = [])
    (h : ∀ x w w1, Mem w0 L β m.hp w → Only [] w w1 → Q x w w1 → Back w0 L w1 (wrN β m.hp) → (∀ y ∈ wrN β m.hp, y < w.heap.size) → Hs P f R n w1 (wrN β m.hp) β (m.put (dstOf m) (.c (.v (v x))) m.hp)) : Hs P f R n w0 L β m := by
  refine ⟨fun w H W => ?_⟩
  unfold callOf at hc
  split at hc
  · rename_i o ho
    split at hc
    · rename_i hg
      split at hc
      · rename_i F' args' hp
        injection hc with hc
        injection hc with h1 h2
        subst h1; subst h2
        have hd : dstOf m = o.dst := by unfold dstOf; rw [ho]
        rw [hd] at h
        refine Gs.op ho hg ?_
        unfold Oper.wp
        rw [fr_eval, pureOut_run P _ _ hp w]
        refine Calls.mono (hC w H) ?_
        rintro e w' ⟨x, rfl, O, hQ⟩
        have H' := H.step O
        refine ⟨β, putS o.dst (.c (.v (v x))) m.sl, m.hp, fr_put n β m.sl o.dst (.c (.v (v x))), fun w2 hI => hI, (h x w w' H O hQ H'.back H.wrN_lt).go w' H'.rebase ?_⟩
        simp only [SM.wf, SM.put, Bool.and_eq_true]
        exact ⟨putS_wf (SM.wf_sl W) rfl, SM.wf_hp W⟩
      · cases hc
    · cases hc
  · cases hc
/-- From here on all is counted from the world that is. -/
theorem Hs.base (h : ∀ w1, Mem w0 L β m.hp w1 → Back w0 L w1 (wrN β m.hp) → Hs P f R n w1 (wrN β m.hp) β m) : Hs P f R n w0 L β m :=
  ⟨fun w H W => (h w H H.back).go w H.rebase W⟩
/-! Slices of our own. -/
section
variable {α : Type} {cf : α → List Value} {tS E size bytes : Nat}
theorem Mem.ownX {w : World} {hp : List HB} (H : Mem w0 L β hp w) (k : Nat) {A : Option Addr} {cap n : Nat} {l : List α} (hl : l.length = n) (hk : hp[k]? = some (.s A cap n E size (l.flatMap cf))) : OwnX cf E size w 0 (.slice A n cap) l := by
  unfold OwnX
  rw [hl]
  exact H.lies k _ hk
theorem Mem.rdX {w : World} {hp : List HB} (H : Mem w0 L β hp w) (k : Nat) {A : Option Addr} {cap n : Nat} {l : List α} (hl : l.length = n) (hk : hp[k]? = some (.s A cap n E size (l.flatMap cf))) : RdX cf w A l := by
  obtain ⟨A', cap', e, _, _, hr, _⟩ := (H.ownX k hl hk).form
  injection e with e1
  subst e1
  exact hr
theorem Mem.capS {w : World} {hp : List HB} (H : Mem w0 L β hp w) (k : Nat) {A : Option Addr} {cap n : Nat} {l : List α} (hl : l.length = n) (hk : hp[k]? = some (.s A cap n E size (l.flatMap cf))) : n ≤ cap ∧ cap ≤ maxLen := by
  obtain ⟨A', cap', e, h1, h2, _, _⟩ := (H.ownX k hl hk).form
  injection e with e1 e2 e3
  subst e3; subst hl
  exact ⟨h1, h2⟩
/-- A call that makes a slice. -/
theorem Hs.callS (v : Option Addr → Nat → Value) (l : List α) (nl : Nat) (hl : l.length = nl) {F : FuncId} {args : Array Value} (hC : ∀ w, Mem w0 L β m.hp w → Calls P F args w fun e w' => ∃ A cap, e = .returned (v A cap) ∧ Only [] w w' ∧ OwnX cf E size w' w.heap.size (.slice A nl cap) l)
    (hc : callOf P n β m = some (F, args)) (hrd : (rdOf m).all (fun k => Nat.blt k m.hp.length) = true)
    (h : ∀ A cap, nl ≤ cap → cap ≤ maxLen → Hs P f R n w0 L (β ++ [0]) (m.put (dstOf m) (.c (.v (v A cap))) (m.hp ++ [.s A cap nl E size (l.flatMap cf)]))) : Hs P f R n w0 L β m := by
  subst hl
  refine ⟨fun w H W => ?_⟩
  refine (Hs.call hc (fun w H => ?_)).go w H W
  refine Calls.mono (hC w H) ?_
  rintro e w' ⟨A, cap, rfl, O, hO⟩
  have hw := SM.wf_hp W
  obtain ⟨A1, cap1, e1, hc1, hc2, _, hA⟩ := hO.form
  injection e1 with e1 e2 e3
  subst e1; subst e3
  refine ⟨[0], .c (.v (v A cap)), m.hp ++ [.s A cap l.length E size (l.flatMap cf)], rfl, H.push (h := .s A cap l.length E size (l.flatMap cf)) (by rw [H.len]; exact hw) O (fun y hy => ?_) (OwnX.mono hO (Nat.zero_le _)), ?_, fun k hk h hh => ?_, h A cap hc1 hc2⟩
  · simp only [HB.blk, Option.map_eq_some_iff] at hy
    obtain ⟨a, hx, rfl⟩ := hy
    exact (hA a hx).1
  · simp only [SV.wf, SC.wf, Bool.true_and, Bool.and_eq_true, Nat.ble_eq, List.length_append, List.length_cons, List.length_nil, List.all_append, List.all_cons, List.all_nil, Bool.and_true]
    refine ⟨by omega, List.all_eq_true.2 fun y hy => ?_, rfl⟩
    have h1 := List.all_eq_true.1 hw y hy
    cases y with
    | no => rfl
    | s => rfl
    | q => rfl
    | r _ _ _ => rfl
    | b _ _ cs => exact List.all_eq_true.2 fun z hz => SC.wf_mono (by omega) (List.all_eq_true.1 h1 z hz)
  · rw [List.getElem?_append_left (List.getElem?_eq_some_iff.1 hh).1]; exact hh
/-- The same block, or a new one. -/
def WhereG (v v' : Value) (H : Nat) : Prop := ∀ x, v'.ownBlock = some x → v.ownBlock = some x ∨ H ≤ x
theorem Where2.g {v v' : Value} {H : Nat} (h : Where2 v v' H) : WhereG v v' H := fun x hx => by
  rcases h with h | h
  · left; rw [← h]; exact hx
  · right; rw [h] at hx; injection hx with hx; omega
theorem WhereG.same {A : Option Addr} {a b c d H : Nat} : WhereG (.slice A a b) (.slice A c d) H := fun x hx => .inl (by cases A <;> exact hx)
theorem Mem.whereG {w w' : World} {v : Value} {hp : List HB} (H : Mem w v.ownBlock.toList β hp w') (k : Nat) {A' : Option Addr} {cap' nl' : Nat} {vs : List Value} (hk : hp[k]? = some (.s A' cap' nl' E size vs)) : WhereG v (.slice A' nl' cap') w.heap.size := fun x hx => by
  rcases H.own k _ x hk rfl (by cases A' <;> exact hx) with h | h
  · exact .inl (Option.mem_toList.1 h)
  · exact .inr h
theorem Mem.ownTurn {w w' : World} {hp : List HB} (H : Mem w0 L β hp w) (k : Nat) {A A' : Option Addr} {cap cap' nl nl' : Nat} {vs : List Value} {l' : List α} (hl' : l'.length = nl') (hk : hp[k]? = some (.s A cap nl E size vs)) (O : Only (Value.ownBlock (.slice A nl cap)).toList w w') (hO : OwnX cf E size w' 0 (.slice A' nl' cap') l') (hw : WhereG (.slice A nl cap) (.slice A' nl' cap') w.heap.size) : Mem w0 L β (hp.set k (.s A' cap' nl' E size (l'.flatMap cf))) w' := by
  refine H.swap k hk O (fun x hx => ?_) rfl ?_ (fun x hx => ?_)
  · cases A with
    | none => simp [Value.ownBlock] at hx
    | some a => simp only [Value.ownBlock, Option.toList_some, List.mem_singleton] at hx; subst hx; rfl
  · have h5 := hO
    unfold OwnX at h5
    rw [hl'] at h5
    exact h5
  · have hb : Value.ownBlock (.slice A' nl' cap') = some x := by
      cases A' with
      | none => cases hx
      | some a => simp only [HB.blk, Option.map_some] at hx; exact hx
    rcases hw x hb with h4 | h4
    · left
      cases A with
      | none => cases h4
      | some a => exact h4
    · exact .inr h4
/-- A call that takes a slice of ours, and hands one back: the same block, or a new one. -/
theorem Hs.callO (k : Nat) (l l' : List α) (nl nl' : Nat) (hl : l.length = nl) (hl' : l'.length = nl') {A : Option Addr} {cap : Nat} {F : FuncId} {args : Array Value} (hk : m.hp[k]? = some (.s A cap nl E size (l.flatMap cf)))
    (hC : ∀ w, Mem w0 L β m.hp w → OwnX cf E size w 0 (.slice A nl cap) l → Calls P F args w fun e w' => ∃ A' cap', e = .returned (.slice A' nl' cap') ∧ Only (Value.ownBlock (.slice A nl cap)).toList w w' ∧ OwnX cf E size w' 0 (.slice A' nl' cap') l' ∧ WhereG (.slice A nl cap) (.slice A' nl' cap') w.heap.size)
    (hc : callOf P n β m = some (F, args)) (hrd : (rdOf m).contains k = false)
    (h : ∀ A' cap', nl' ≤ cap' → cap' ≤ maxLen → Hs P f R n w0 L β (m.put (dstOf m) (.c (.v (.slice A' nl' cap'))) (m.hp.set k (.s A' cap' nl' E size (l'.flatMap cf))))) : Hs P f R n w0 L β m := by
  refine ⟨fun w H W => ?_⟩
  refine (Hs.call hc (fun w H => ?_)).go w H W
  refine Calls.mono (hC w H (H.ownX k hl hk)) ?_
  rintro e w' ⟨A', cap', rfl, O, hO, hw⟩
  obtain ⟨A1, cap1, e1, hc1, hc2, _, _⟩ := hO.form
  injection e1 with e1 e2 e3
  subst e1; subst e3
  rw [hl'] at hc1
  refine ⟨[], .c (.v (.slice A' nl' cap')), m.hp.set k (.s A' cap' nl' E size (l'.flatMap cf)), rfl, ?_, ?_, fun i hi b hb => ?_, by rw [List.append_nil]; exact h A' cap' hc1 hc2⟩
  · rw [List.append_nil]; exact H.ownTurn k hl' hk O hO hw
  · simp only [SV.wf, SC.wf, Bool.true_and, Bool.and_eq_true, Nat.ble_eq, List.length_set]
    refine ⟨Nat.le_refl _, List.all_eq_true.2 fun x hx => ?_⟩
    rcases List.mem_or_eq_of_mem_set hx with hx | rfl
    · exact List.all_eq_true.1 (SM.wf_hp W) x hx
    · rfl
  · rw [List.getElem?_set, if_neg (fun e => by
      subst e
      simp at hrd
      exact hrd hi)]
    exact hb
theorem flatMap_set (hcl : ∀ x, (cf x).length = size) (x : α) : ∀ (l : List α) (i : Nat), i < l.length → (l.set i x).flatMap cf = splice (l.flatMap cf) (i * size) (cf x)
  | [], i, h => by simp at h
  | a :: l, 0, h => by
    simp only [List.set_cons_zero, List.flatMap_cons, Nat.zero_mul, splice, List.take_zero, List.nil_append, Nat.zero_add, hcl]
    rw [List.drop_append_of_le_length (by rw [hcl]; exact Nat.le_refl _), List.drop_eq_nil_of_le (by rw [hcl]; exact Nat.le_refl _), List.nil_append]
  | a :: l, i + 1, h => by
    have ih := flatMap_set hcl x l i (by simpa using h)
    have e : (i + 1) * size = (cf a).length + i * size := by rw [hcl, Nat.succ_mul, Nat.add_comm]
    simp only [List.set_cons_succ, List.flatMap_cons, ih, splice, e]
    have t1 : ∀ k (r : List Value), (cf a ++ r).take ((cf a).length + k) = cf a ++ r.take k := fun k r => List.take_length_add_append k
    have t2 : ∀ k (r : List Value), (cf a ++ r).drop ((cf a).length + k) = r.drop k := fun k r => List.drop_length_add_append k
    rw [t1, Nat.add_assoc, t2, List.append_assoc]
theorem ownX_set {w : World} {g cap base : Nat} {l : List α} (hcl : ∀ x, (cf x).length = size) (h : OwnX cf E size w base (.slice (some ⟨g, 0, none⟩) l.length cap) l) (i : Nat) (hi : i < l.length) (x : α) : OwnX cf E size (w.setCells g (i * size) (cf x)) base (.slice (some ⟨g, 0, none⟩) l.length cap) (l.set i x) := by
  obtain ⟨h1, ⟨h2, _⟩ | ⟨g', c', cur, e, hg, hh, hc, hm, hs, ht⟩⟩ := h
  · injection h2 with h2; cases h2
  injection e with e1 e2 e3
  injection e1 with e1
  injection e1 with e1
  subst e1; subst e3
  have hB : Blk w g E cur.toList := by
    show w.heap[g]? = _
    rw [hh]
  have hle : i * size + (cf x).length ≤ cur.toList.length := by
    rw [hcl, Array.length_toList, hs]
    calc i * size + size = (i + 1) * size := by rw [Nat.succ_mul]
      _ ≤ cap * size := Nat.mul_le_mul_right _ (by omega)
  have hB' := blk_setCells (cf x) (i * size) w cur.toList hB hle
  have hlen : (cf x).length = size := hcl x
  have hcur : cur.toList.length = cap * size := by rw [Array.length_toList, hs]
  refine ⟨by rw [flatMap_len hcl], .inr ⟨g, cap, (splice cur.toList (i * size) (cf x)).toArray, by simp, hg, hB', by simpa using hc, hm, ?_, ?_⟩⟩
  · simp only [List.size_toArray, splice, List.length_append, List.length_take, List.length_drop]
    omega
  · rw [flatMap_set hcl x l i hi, ← ht]
    simp only [List.length_set, List.toList_toArray]
    have hlt : i * size + size ≤ l.length * size := by
      calc i * size + size = (i + 1) * size := by rw [Nat.succ_mul]
        _ ≤ l.length * size := Nat.mul_le_mul_right _ (by omega)
    generalize hN : l.length * size = N at hlt
    generalize hJ : i * size = J at hlt hle
    generalize hC : cap * size = C at hcur
    generalize cur.toList = cl at hcur hle
    unfold splice
    rw [List.take_take, Nat.min_eq_left (by omega), List.take_append, List.take_of_length_le (by rw [List.length_take]; omega), List.length_take, Nat.min_eq_left (by omega)]
    congr 1
    rw [List.take_append, List.take_of_length_le (by omega)]
    congr 1
    rw [List.drop_take]
    congr 1
    omega
/-- An element of our slice is stored. -/
theorem Hs.stx (k : Nat) (hcl : ∀ x, (cf x).length = size) (hone : ∀ x, ∀ u ∈ cf x, u.oneCell' = true) (l : List α) (nl : Nat) (hl : l.length = nl) (i : Nat) (hi : i < nl) (x : α) {v : Value} (hv : v.cells = (cf x).toArray) {g cap : Nat} {E' : TypeId} (hz : szB P E' = some size)
    (hs : semOf n β m = some (unitS (Instr.storeAt E' (.pointer (some ⟨g, 0 + i * size, none⟩)) v))) (hk : m.hp[k]? = some (.s (some ⟨g, 0, none⟩) cap nl E size (l.flatMap cf))) (hrd : (rdOf m).contains k = false)
    (h : Hs P f R n w0 L β (m.put (dstOf m) (.c (.v undef)) (m.hp.set k (.s (some ⟨g, 0, none⟩) cap nl E size ((l.set i x).flatMap cf))))) : Hs P f R n w0 L β m := by
  subst hl
  rw [Nat.zero_add] at hs
  refine Hs.opU hs fun w H W => ?_
  have hO := H.ownX k rfl hk
  have hO' := ownX_set hcl hO i hi x
  obtain ⟨h1, ⟨h2, _⟩ | ⟨g', c', cur, e, hg, hh, hc, hm, hsz, ht⟩⟩ := hO
  · injection h2 with h2; cases h2
  injection e with e1 e2 e3
  injection e1 with e1
  injection e1 with e1
  subst e1; subst e3
  have hB : Blk w g E cur.toList := by
    show w.heap[g]? = _
    rw [hh]
  have hle : i * size + (cf x).length ≤ cur.toList.length := by
    rw [hcl, Array.length_toList, hsz]
    calc i * size + size = (i + 1) * size := by rw [Nat.succ_mul]
      _ ≤ cap * size := Nat.mul_le_mul_right _ (by omega)
  have hst : (storeVar E' ⟨g, i * size, none⟩ v).run P w = .ok () (w.setCells g (i * size) (cf x)) := by
    have hc := run_storeCells_cells (P := P) g (i * size) (cf x) 0 w (fun j hj => by
        simpa using (blk_there hB (i * size) (cf x).length hle j (by simpa using hj)).1) (fun j hj => by
        simpa using (blk_there hB (i * size) (cf x).length hle j (by simpa using hj)).2) (hone x)
    simp only [Nat.add_zero] at hc
    unfold storeVar
    simp only [Sem.run_bind, run_sizeB hz w, Result.andThen_ok, hv]
    rw [if_neg (by simp [hcl])]
    simp [hc]
  refine ⟨_, w.setCells g (i * size) (cf x), by simp only [Instr.storeAt, Instr.sureAddr, Sem.run_bind, Sem.run_pure, Result.andThen_ok, hst], H.ownTurn k (l' := l.set i x) (by simp) hk (only_setCells _ _ _) (by simpa using hO') WhereG.same, ?_, fun j hj b hb => ?_, h⟩
  · simp only [Bool.and_eq_true, Nat.ble_eq, List.length_set]
    refine ⟨Nat.le_refl _, List.all_eq_true.2 fun x hx => ?_⟩
    rcases List.mem_or_eq_of_mem_set hx with hx | rfl
    · exact List.all_eq_true.1 (SM.wf_hp W) x hx
    · rfl
  · rw [List.getElem?_set, if_neg (fun e => by
      subst e
      simp at hrd
      exact hrd hj)]
    exact hb
end
end
end Go.Proofs.YtdplnedpbkpgpaaGreatDoor

namespace Go.Proofs.YtdplnedpbkpgpaaGreatDoor
set_option linter.all false
set_option maxRecDepth 100000
open Go.RowKit

theorem rd_blk {w : World} {b T : Nat} {l : List Int} (h : Blk w b T (l.map (.int .u8))) : Rd w (some ⟨b, 0, none⟩) l := fun _ =>
  ⟨b, 0, rfl, h.lt, fun i v hi => by rw [h.cell]; simp [hi]⟩
theorem rd_st {A : Option Addr} {l : List Int} (w w' : World) (h1 : ∀ a, A = some a → w'.heap[a.block]? = w.heap[a.block]?) (h2 : w.heap.size ≤ w'.heap.size) (h : Rd w A l) : Rd w' A l := fun h0 => by
  obtain ⟨b, off, rfl, hlt, hc⟩ := h h0
  exact ⟨b, off, rfl, by omega, fun i v hi => (World.cell?_of_block (w := w) (show w'.heap[b]? = w.heap[b]? from h1 _ rfl)).trans (hc i v hi)⟩
/-- []byte of a literal: the block is marked, and reads as it did. -/
theorem run_mark {P : Program} {T E : TypeId} {w : World} {b n : Nat} {l : List Int} (hT : P.underlying T = some (.slice E)) (hE : P.underlying E = some (.int .u8)) (hB : Blk w b E (l.map (.int .u8))) : ∃ w', (convert T T (.slice (some ⟨b, 0, none⟩) n n)).run P w = .ok (.slice (some ⟨b, 0, none⟩) n n) w' ∧ Only [b] w w' ∧ Rd w' (some ⟨b, 0, none⟩) l ∧ b < w'.heap.size := by
  have hlt := hB.lt
  have hs : w.shape? b = some (E, (l.map (Value.int .u8)).length) := by
    unfold World.shape?
    rw [show w.heap[b]? = _ from hB]
    simp
  refine ⟨w.freeze ⟨b, (l.map (Value.int .u8)).length, none⟩ 1, ?_, ?_, ?_, ?_⟩
  · simp [convert, run_underlying hT, run_underlying hE, markStringish, hs]
  · refine ⟨rfl, rfl, rfl, by simp [World.freeze], fun k hk hn => ?_⟩
    simp only [List.mem_singleton] at hn
    simp [World.freeze, Array.getElem?_modify, Ne.symm hn]
  · intro _
    refine ⟨b, 0, rfl, by simpa [World.freeze] using hlt, fun i v hi => ?_⟩
    have h0 : w.heap[b]? = some (.cells (l.map (Value.int .u8)).toArray E (0, 0)) := hB
    simp [World.freeze, World.cell?, Array.getElem?_modify, h0, hi]
  · simpa [World.freeze] using hlt
section
variable {P : Program} {f : FuncId} {R : Ending → World → Prop} {n : Nat} {w0 : World} {L : List Nat} {β : List Nat} {m : SM}
theorem Hs.mark (k : Nat) (T E : TypeId) (l : List Int) (nl : Nat) (hT : P.underlying T = some (.slice E)) (hE : P.underlying E = some (.int .u8)) (hs : semOf n β m = some (valS (convert T T (.slice (some ⟨nm β k, 0, none⟩) nl nl)))) (hk : m.hp[k]? = some (.b true E (l.map fun x => .v (.int .u8 x)))) (hrd : (rdOf m).contains k = false)
    (h : Hs P f R n w0 L β (m.put (dstOf m) (.c (.v (.slice (some ⟨nm β k, 0, none⟩) nl nl))) (m.hp.set k (.q true (some ⟨nm β k, 0, none⟩) (fun w => Rd w (some ⟨nm β k, 0, none⟩) l) rd_st)))) : Hs P f R n w0 L β m := by
  have hkl := (List.getElem?_eq_some_iff.1 hk).1
  refine Hs.opW hs fun w H W => ?_
  have hB : Blk w (nm β k) E (l.map (.int .u8)) := by
    have := H.at k hk
    have e : dens β (l.map fun x => SC.v (.int .u8 x)) = l.map (.int .u8) := by simp [dens, SC.den, Function.comp_def]
    rw [e] at this; exact this
  obtain ⟨w', h1, h2, h3, h4⟩ := run_mark (n := nl) hT hE hB
  refine ⟨[], .c (.v (.slice (some ⟨nm β k, 0, none⟩) nl nl)), _, w', h1, ?_, ?_, fun i hi b hb => ?_, by rw [List.append_nil]; exact h⟩
  · rw [List.append_nil]
    refine H.swap k hk h2 (fun x hx => by simp only [List.mem_singleton] at hx; subst hx; rfl) rfl ?_ (fun x hx => .inl hx)
    exact ⟨h3, fun a ha => (by injection ha with ha; subst ha; exact h4)⟩
  · simp only [SV.wf, SC.wf, Bool.true_and, Bool.and_eq_true, Nat.ble_eq, List.length_set]
    refine ⟨Nat.le_refl _, List.all_eq_true.2 fun x hx => ?_⟩
    rcases List.mem_or_eq_of_mem_set hx with hx | rfl
    · exact List.all_eq_true.1 (SM.wf_hp W) x hx
    · rfl
  · rw [List.getElem?_set, if_neg (fun e => by
      subst e
      simp at hrd
      exact hrd hi)]
    exact hb
end
end Go.Proofs.YtdplnedpbkpgpaaGreatDoor

namespace Go.Proofs.YtdplnedpbkpgpaaGreatDoor
set_option linter.all false
set_option maxRecDepth 100000
open Go.RowKit

section
variable {P : Program} {f : FuncId} {R : Ending → World → Prop} {n : Nat} {w0 : World} {L : List Nat} {β : List Nat} {m : SM}
variable {α : Type} {cf : α → List Value} {tS E size bytes : Nat}
theorem ElemT.elem (ht : ElemT P tS E size bytes) : P.elem tS = E := by unfold Program.elem; rw [ht.ht]
theorem ElemT.sizeOf (ht : ElemT P tS E size bytes) (w : World) : (Go.sizeOf E).run P w = .ok size w := by
  obtain ⟨_, ⟨i, z, h1, _, h3, _⟩, _⟩ := ht
  simp [Go.sizeOf, typeInfo, h1, h3]
theorem run_slo (ht : ElemT P tS E size bytes) {g off n cap i : Nat} (hi : i < cap) (hn : i ≤ n) (w : World) : (Instr.sliceAt tS (.slice (some ⟨g, off, none⟩) n cap) (some (.int .i64 i)) none none).run P w = .ok (.slice (some ⟨g, off + i * size, none⟩) (n - i) (cap - i)) w := by
  have hu : P.underlying tS = some (.slice (P.elem tS)) := by rw [ht.elem]; exact ht.ht
  rw [run_sliceAt_slice (h := hu), run_slice_l (ht := hu) (h0 := by omega) (h1 := by omega), ht.elem, ht.sizeOf]
  simp only [Result.andThen_ok, sliced, Int.toNat_natCast]
  rw [if_neg (by omega)]
  simp [Addr.add_mid]
theorem run_shi (ht : ElemT P tS E size bytes) {g off n cap i : Nat} (hi : i ≤ cap) (w : World) : (Instr.sliceAt tS (.slice (some ⟨g, off, none⟩) n cap) none (some (.int .i64 i)) none).run P w = .ok (.slice (some ⟨g, off, none⟩) i cap) w := by
  have hu : P.underlying tS = some (.slice (P.elem tS)) := by rw [ht.elem]; exact ht.ht
  rw [run_sliceAt_slice (h := hu), run_slice_h (ht := hu) (h0 := by omega) (h2 := by omega), ht.elem, ht.sizeOf]
  simp only [Result.andThen_ok, sliced, Int.toNat_natCast]
  split <;> simp [Addr.add_mid]
/-- s[i:] -/
theorem Hs.slo (ht : ElemT P tS E size bytes) {g off len cap i : Nat} (hi : i < cap) (hn : i ≤ len) (hs : semOf n β m = some (valS (Instr.sliceAt tS (.slice (some ⟨g, off, none⟩) len cap) (some (.int .i64 i)) none none))) (h : Hs P f R n w0 L β (m.put (dstOf m) (.c (.v (.slice (some ⟨g, off + i * size, none⟩) (len - i) (cap - i)))) m.hp)) : Hs P f R n w0 L β m :=
  Hs.opV (.c (.v (.slice (some ⟨g, off + i * size, none⟩) (len - i) (cap - i)))) hs rfl (fun w _ => run_slo ht hi hn w) h
/-- s[:i] -/
theorem Hs.shi (ht : ElemT P tS E size bytes) {g off len cap i : Nat} (hi : i ≤ cap) (hs : semOf n β m = some (valS (Instr.sliceAt tS (.slice (some ⟨g, off, none⟩) len cap) none (some (.int .i64 i)) none))) (h : Hs P f R n w0 L β (m.put (dstOf m) (.c (.v (.slice (some ⟨g, off, none⟩) i cap))) m.hp)) : Hs P f R n w0 L β m :=
  Hs.opV (.c (.v (.slice (some ⟨g, off, none⟩) i cap))) hs rfl (fun w _ => run_shi ht hi w) h
/-- One cell of what is only read. -/
theorem run_ldc {E' b off : Nat} {v : Value} (ha : aggB P E' = some false) {w : World} (hc : w.cell? ⟨b, off, none⟩ = some v) : (Instr.loadAt E' (.pointer (some ⟨b, off, none⟩))).run P w = .ok v w := by
  simp [Instr.loadAt, Instr.sureAddr, loadVar, run_aggB ha w, hc]
theorem Hs.ldc {E' b off : Nat} (v : Value) (hs : semOf n β m = some (valS (Instr.loadAt E' (.pointer (some ⟨b, off, none⟩))))) (hc : ∀ w, Mem w0 L β m.hp w → w.cell? ⟨b, off, none⟩ = some v) (ha : aggB P E' = some false) (h : Hs P f R n w0 L β (m.put (dstOf m) (.c (.v v)) m.hp)) : Hs P f R n w0 L β m :=
  Hs.opV (.c (.v v)) hs rfl (fun w H => run_ldc ha (hc w H)) h
theorem rdX_cell (hcl : ∀ x, (cf x).length = size) {w : World} {b off : Nat} {l : List α} {i : Nat} {x : α} (hr : RdX cf w (some ⟨b, off, none⟩) l) (hx : l[i]? = some x) {j : Nat} {v : Value} (hj : (cf x)[j]? = some v) : w.cell? ⟨b, off + i * size + j, none⟩ = some v :=
  rdX_range hcl hr hx j v hj
/-- A row of ours, for a start. -/
theorem Mem.startS (w : World) {A : Option Addr} {cap nl : Nat} {vs : List Value} (h : w.ownsRow 0 E size (.slice A nl cap) nl vs) : Mem w (Value.ownBlock (.slice A nl cap)).toList [0] [.s A cap nl E size vs] w :=
  Mem.start _ _ _ _ rfl (fun k b hk => by
    cases k with
    | zero => simp at hk; subst hk; exact h
    | succ k => simp at hk) (fun k b x hk _ hx => by
    cases k with
    | zero =>
      simp at hk; subst hk
      cases A with
      | none => cases hx
      | some a => simp only [HB.blk, Option.map_some, Option.some.injEq] at hx; subst hx; simp [Value.ownBlock]
    | succ k => simp at hk) (fun i j hi hj x ei ej _ _ => by
    cases i with
    | succ i => simp at ei
    | zero =>
      cases j with
      | succ j => simp at ej
      | zero => rfl)
theorem Mem.rdB {w : World} {hp : List HB} (H : Mem w0 L β hp w) (k : Nat) {wr : Bool} {T : TypeId} {cs : List SC} {gs : List α} (hk : hp[k]? = some (.b wr T cs)) (hg : dens β cs = gs.flatMap cf) : RdX cf w (some ⟨nm β k, 0, none⟩) gs := fun h0 => by
  have hB := H.at k hk
  refine ⟨nm β k, 0, rfl, hB.lt, fun j u hj => ?_⟩
  rw [Nat.zero_add, hB.cell, hg]; exact hj
theorem Mem.toS {w w' : World} {hp : List HB} (H : Mem w0 L β hp w) (k : Nat) {h0 : HB} {v : Value} {A' : Option Addr} {cap' nl' : Nat} {l' : List α} (hl' : l'.length = nl') (hk : hp[k]? = some h0) (hw0 : h0.wr = true) (hb : h0.blk (nm β k) = v.ownBlock) (O : Only v.ownBlock.toList w w') (hO : OwnX cf E size w' 0 (.slice A' nl' cap') l') (hw : Where2 v (.slice A' nl' cap') w.heap.size) : Mem w0 L β (hp.set k (.s A' cap' nl' E size (l'.flatMap cf))) w' := by
  refine H.swap k hk O (fun x hx => ?_) hw0 ?_ (fun x hx => ?_)
  · rw [hb]; exact Option.mem_toList.1 hx
  · have h5 := hO
    unfold OwnX at h5
    rw [hl'] at h5
    exact h5
  · have hb' : Value.ownBlock (.slice A' nl' cap') = some x := by
      cases A' with
      | none => cases hx
      | some a => simp only [HB.blk, Option.map_some] at hx; exact hx
    rcases hw with h4 | h4
    · left; rw [hb, ← h4]; exact hb'
    · right
      rw [h4] at hb'
      injection hb' with hb'
      omega
theorem set_wf {hp : List HB} {k : Nat} {b : HB} {N : Nat} (h : hp.all (HB.wf N) = true) (hb : b.wf N = true) : (hp.set k b).all (HB.wf N) = true :=
  List.all_eq_true.2 fun x hx => by
    rcases List.mem_or_eq_of_mem_set hx with hx | rfl
    · exact List.all_eq_true.1 h x hx
    · exact hb
/-- append([]T{}, y...) -/
theorem Hs.litX (k : Nat) (ht : ElemT P tS E size bytes) (gs : List α) (ng : Nat) (hg : gs.length = ng) {B : Option Addr} {c ty : Nat} (hone : ∀ x, ∀ u ∈ cf x, u.oneCell' = true) (hcl : ∀ x, (cf x).length = size)
    (hs : semOf n β m = some (valS (Builtin.append_ #[tS, tS] ty #[.slice (some ⟨nm β k, 0, none⟩) 0 0, .slice B ng c]))) (hk : m.hp[k]? = some (.b true E [])) (hrd : (rdOf m).contains k = false)
    (hr : ∀ w, Mem w0 L β m.hp w → RdX cf w B gs) (hlen : ng ≤ maxLen) (hby : ng * bytes ≤ 140737488355328)
    (h : ∀ A' cap', ng ≤ cap' → cap' ≤ maxLen → Hs P f R n w0 L β (m.put (dstOf m) (.c (.v (.slice A' ng cap'))) (m.hp.set k (.s A' cap' ng E size (gs.flatMap cf))))) : Hs P f R n w0 L β m := by
  subst hg
  refine Hs.opW hs fun w H W => ?_
  have hB : Blk w (nm β k) E [] := by
    have := H.lies k _ hk
    simpa [HB.lies, dens] using this
  have hown : OwnX cf E size w 0 (.slice (some ⟨nm β k, 0, none⟩) 0 0) [] := ⟨by simp, .inr ⟨nm β k, 0, #[], rfl, Nat.zero_le _, hB, Nat.le_refl _, by decide, by simp, by simp⟩⟩
  obtain ⟨v', w', h1, h2, h3, h4⟩ := run_appX (ty := ty) ht hone hown B c gs (flatMap_len hcl gs) (hr w H) (by simpa using hlen) (by simpa using hby) (Nat.zero_le _)
  rw [List.nil_append] at h2
  obtain ⟨A', cap', rfl, hc1, hmax, _, hblk⟩ := h2.form
  refine ⟨[], .c (.v (.slice A' gs.length cap')), m.hp.set k (.s A' cap' gs.length E size (gs.flatMap cf)), w', h1, ?_, ?_, fun i hi b hh => ?_, by rw [List.append_nil]; exact h A' cap' hc1 hmax⟩
  · rw [List.append_nil]
    exact H.toS k rfl hk rfl rfl h3 h2 h4
  · simp only [SV.wf, SC.wf, Bool.true_and, Bool.and_eq_true, Nat.ble_eq, List.length_set]
    exact ⟨Nat.le_refl _, set_wf (SM.wf_hp W) rfl⟩
  · rw [List.getElem?_set, if_neg (fun e => by
      subst e
      simp at hrd
      exact hrd hi)]
    exact hh
/-- append(nil, y...) -/
theorem zero_len {z : Value} (n : Nat) : (Builtin.zeroCells z.cells n).toList.length = n * z.cells.size := by simp [Builtin.zeroCells]
theorem run_clr (ht : ElemT P tS E size bytes) {g off n c ty : Nat} {w : World} {T : Nat} {vs : List Value} (hB : Blk w g T vs) (hn : 0 < n) (hle : off + n * size ≤ vs.length) (hone : ∀ i z, P.info? E = some i → i.zero = some z → ∀ u ∈ z.cells.toList, u.oneCell' = true) :
    ∃ zs : List Value, zs.length = n * size ∧ (Builtin.clear_ #[tS] ty #[.slice (some ⟨g, off, none⟩) n c]).run P w = .ok (.tuple #[]) (w.setCells g off zs) := by
  obtain ⟨hu, ⟨i, z, h1, h2, h3, h4, h5⟩, hpos⟩ := ht
  obtain ⟨k, rfl⟩ : ∃ k, n = k + 1 := ⟨n - 1, by omega⟩
  refine ⟨(Builtin.zeroCells z.cells (k + 1)).toList, by rw [zero_len, h5], ?_⟩
  have hl : (Builtin.zeroCells z.cells (k + 1)).toList.length = (k + 1) * size := by rw [zero_len, h5]
  have hu1 : ∀ u ∈ (Builtin.zeroCells z.cells (k + 1)).toList, u.oneCell' = true := fun u hu => by
    simp only [Builtin.zeroCells, Array.toList_map, List.mem_map, Array.mem_toList_iff, Array.mem_range] at hu
    obtain ⟨j, hj, rfl⟩ := hu
    have hm : j % z.cells.size < z.cells.size := Nat.mod_lt _ (by omega)
    refine hone i z h1 h2 _ ?_
    rw [getElem!_pos z.cells _ hm]
    simp
  have hst := run_storeCells_cells (P := P) g off (Builtin.zeroCells z.cells (k + 1)).toList 0 w (fun j hj => by
        simpa using (blk_there hB off ((k + 1) * size) hle j (by rw [← hl]; exact hj)).1) (fun j hj => by
        simpa using (blk_there hB off ((k + 1) * size) hle j (by rw [← hl]; exact hj)).2) hu1
  simp only [Nat.add_zero] at hst
  simp [Builtin.clear_, run_underlying hu, zeroValue, typeInfo, h1, h2, hst]
theorem ownX_part {w w' : World} {g cap i : Nat} {l : List α} (hcl : ∀ x, (cf x).length = size) (h : OwnX cf E size w 0 (.slice (some ⟨g, 0, none⟩) l.length cap) l) (hi : i ≤ l.length) (h' : ∃ cur', Blk w' g E cur' ∧ cur'.length = cap * size ∧ cur'.take (i * size) = (l.take i).flatMap cf) : OwnX cf E size w' 0 (.slice (some ⟨g, 0, none⟩) i cap) (l.take i) := by
  obtain ⟨cur', hB, h3, h4⟩ := h'
  obtain ⟨h1, ⟨h2, _⟩ | ⟨g', c', cur, e, hg, hh, hc, hm, hs, ht⟩⟩ := h
  · injection h2 with h2; cases h2
  injection e with e1 e2 e3
  injection e1 with e1
  injection e1 with e1
  subst e1; subst e3
  have hl : (l.take i).length = i := by rw [List.length_take]; omega
  unfold OwnX World.ownsRow
  rw [hl]
  exact ⟨by rw [flatMap_len hcl, hl], .inr ⟨g, cap, cur'.toArray, rfl, hg, hB, by omega, hm, by simpa using h3, by simpa using h4⟩⟩
theorem flatMap_take (hcl : ∀ x, (cf x).length = size) : ∀ (l : List α) (i : Nat), i ≤ l.length → (l.flatMap cf).take (i * size) = (l.take i).flatMap cf
  | l, 0, _ => by simp
  | [], i + 1, h => by simp at h
  | a :: l, i + 1, h => by
    have ih := flatMap_take hcl l i (by simpa using h)
    have e : (i + 1) * size = (cf a).length + i * size := by rw [hcl, Nat.succ_mul, Nat.add_comm]
    rw [List.flatMap_cons, e, List.take_length_add_append, ih, List.take_succ_cons, List.flatMap_cons]
theorem flatMap_drop (hcl : ∀ x, (cf x).length = size) : ∀ (l : List α) (i : Nat), i ≤ l.length → (l.flatMap cf).drop (i * size) = (l.drop i).flatMap cf
  | l, 0, _ => by simp
  | [], i + 1, h => by simp at h
  | a :: l, i + 1, h => by
    have ih := flatMap_drop hcl l i (by simpa using h)
    have e : (i + 1) * size = (cf a).length + i * size := by rw [hcl, Nat.succ_mul, Nat.add_comm]
    rw [List.flatMap_cons, e, List.drop_length_add_append, ih, List.drop_succ_cons]
/-- clear(s[i:]): what stood ahead of it is left. -/
theorem Hs.clr (k : Nat) (ht : ElemT P tS E size bytes) (hcl : ∀ x, (cf x).length = size) (hz1 : ∀ i z, P.info? E = some i → i.zero = some z → ∀ u ∈ z.cells.toList, u.oneCell' = true) (l : List α) (nl i : Nat) (hl : l.length = nl) (hi : i < nl) {g cap c ty : Nat}
    (hs : semOf n β m = some (valS (Builtin.clear_ #[tS] ty #[.slice (some ⟨g, 0 + i * size, none⟩) (nl - i) c]))) (hk : m.hp[k]? = some (.s (some ⟨g, 0, none⟩) cap nl E size (l.flatMap cf))) (hrd : (rdOf m).contains k = false)
    (h : Hs P f R n w0 L β (m.put (dstOf m) (.t []) (m.hp.set k (.s (some ⟨g, 0, none⟩) cap i E size ((l.take i).flatMap cf))))) : Hs P f R n w0 L β m := by
  subst hl
  rw [Nat.zero_add] at hs
  refine Hs.opW hs fun w H W => ?_
  have hO := H.ownX k rfl hk
  have hO2 := hO
  obtain ⟨h1, ⟨h2, _⟩ | ⟨g', c', cur, e, hg, hh, hc, hm, hsz, htk⟩⟩ := hO
  · injection h2 with h2; cases h2
  injection e with e1 e2 e3
  injection e1 with e1
  injection e1 with e1
  subst e1; subst e3
  have hB : Blk w g E cur.toList := by
    show w.heap[g]? = _
    rw [hh]
  have hlen : cur.toList.length = cap * size := by rw [Array.length_toList, hsz]
  have hle : i * size + (l.length - i) * size ≤ cap * size := by
    rw [← Nat.add_mul]; exact Nat.mul_le_mul_right _ (by omega)
  have hil : i * size ≤ l.length * size := Nat.mul_le_mul_right _ (by omega)
  obtain ⟨zs, hzl, hrun⟩ := run_clr (P := P) (ty := ty) (c := c) ht hB (n := l.length - i) (off := i * size) (by omega) (by omega) hz1
  have hB' := blk_setCells zs (i * size) w cur.toList hB (by omega)
  refine ⟨[], .t [], m.hp.set k (.s (some ⟨g, 0, none⟩) cap i E size ((l.take i).flatMap cf)), _, hrun, ?_, ?_, fun j hj b hb => ?_, by rw [List.append_nil]; exact h⟩
  · rw [List.append_nil]
    refine H.ownTurn k (l' := l.take i) (by rw [List.length_take]; omega) hk (only_setCells _ _ _) (ownX_part hcl hO2 (Nat.le_of_lt hi) ⟨_, hB', ?_, ?_⟩) WhereG.same
    · simp only [splice, List.length_append, List.length_take, List.length_drop]; omega
    · unfold splice
      rw [List.take_append_of_le_length (by rw [List.length_take]; omega), List.take_take, Nat.min_self, ← flatMap_take hcl l i (Nat.le_of_lt hi), ← htk, List.take_take, Nat.min_eq_left hil]
  · simp only [SV.wf, List.all_nil, Bool.true_and, Bool.and_eq_true, Nat.ble_eq, List.length_set]
    exact ⟨Nat.le_refl _, set_wf (SM.wf_hp W) rfl⟩
  · rw [List.getElem?_set, if_neg (fun e => by
      subst e
      simp at hrd
      exact hrd hj)]
    exact hb
/-- A row of ours that has elements lies somewhere. -/
theorem Hs.someS (k : Nat) {A : Option Addr} {cap nl : Nat} {vs : List Value} (hk : m.hp[k]? = some (.s A cap nl E size vs)) (hn : 0 < nl) (h : ∀ g, A = some ⟨g, 0, none⟩ → Hs P f R n w0 L β m) : Hs P f R n w0 L β m :=
  ⟨fun w H W => by
    have hl : w.ownsRow 0 E size (.slice A nl cap) nl vs := H.lies k _ hk
    rcases hl.2 with ⟨_, h0⟩ | ⟨g, c, cur, e, _⟩
    · omega
    · injection e with e1
      exact (h g e1).go w H W⟩
/-- Memory that the call itself has made. -/
theorem Mem.fresh {w : World} {hp : List HB} (H : Mem w0 [] β hp w) (k : Nat) {A : Option Addr} {cap nl : Nat} {l : List α} (hl : l.length = nl) (hk : hp[k]? = some (.s A cap nl E size (l.flatMap cf))) : OwnX cf E size w w0.heap.size (.slice A nl cap) l := by
  have hO := H.ownX k hl hk
  obtain ⟨h1, h2 | ⟨g, c, cur, e, hg, rest⟩⟩ := hO
  · exact ⟨h1, .inl h2⟩
  · refine ⟨h1, .inr ⟨g, c, cur, e, ?_, rest⟩⟩
    injection e with e1
    subst e1
    exact (H.own k _ g hk rfl rfl).resolve_left (by simp)
theorem Mem.freshB {w : World} {hp : List HB} (H : Mem w0 [] β hp w) (k : Nat) {nl : Nat} {cs : List SC} (gs : List α) (hn : gs.length = nl) (hk : hp[k]? = some (.b true E cs)) (hg : dens β cs = gs.flatMap cf) (hcl : ∀ x, (cf x).length = size) (hm : nl ≤ maxLen) : OwnX cf E size w w0.heap.size (.slice (some ⟨nm β k, 0, none⟩) nl nl) gs := by
  subst hn
  have hB := H.at k hk
  have hlo := (H.own k _ (nm β k) hk rfl rfl).resolve_left (by simp)
  have hl := flatMap_len hcl gs
  refine ⟨hl, .inr ⟨nm β k, gs.length, (dens β cs).toArray, rfl, hlo, hB, Nat.le_refl _, hm, ?_, ?_⟩⟩
  · rw [hg]; simpa using hl
  · rw [hg, List.toList_toArray, ← hl]; exact List.take_length
theorem Mem.apart {w : World} {hp : List HB} (H : Mem w0 L β hp w) (i j : Nat) {A : Option Addr} {cap nl E' : Nat} {vs : List Value} {wr : Bool} {T : Nat} {cs : List SC} (hi : hp[i]? = some (.s A cap nl E' size vs)) (hj : hp[j]? = some (.b wr T cs)) (hij : i ≠ j) : ∀ a, A = some a → a.block ≠ nm β j := fun a ha he => by
  subst ha
  exact hij (H.inj i j _ _ a.block hi hj rfl (by rw [he]; rfl))
end
end Go.Proofs.YtdplnedpbkpgpaaGreatDoor

namespace Go.Proofs.YtdplnedpbkpgpaaGreatDoor
set_option linter.all false
set_option maxRecDepth 100000
open Go.RowKit

section
variable {P : Program} {f : FuncId} {R : Ending → World → Prop} {n : Nat} {w0 : World} {L : List Nat} {β : List Nat} {m : SM}
variable {tS E size bytes : Nat}
/-- An operation whose run is known. -/
theorem Hs.opN {s : Sem Next} (v : SV) (hs : semOf n β m = some s) (hv : v.wf m.hp.length = true) (h : ∀ w, Mem w0 L β m.hp w → s.run P w = .ok (.value (v.den β)) w) (k : Hs P f R n w0 L β (m.put (dstOf m) v m.hp)) : Hs P f R n w0 L β m := by
  obtain ⟨o, ho, hg, he, hd⟩ := semOf_spec hs
  refine ⟨fun w H W => ?_⟩
  rw [hd] at k
  refine Gs.op ho hg ?_
  unfold Oper.wp
  rw [fr_eval, he, h w H]
  refine ⟨β, _, m.hp, fr_put n β m.sl o.dst v, fun w2 hI => hI, k.go w H ?_⟩
  simp only [SM.wf, SM.put, Bool.and_eq_true]
  exact ⟨putS_wf (SM.wf_sl W) hv, SM.wf_hp W⟩
/-- s[i:], whatever s is. -/
theorem run_sloA (ht : ElemT P tS E size bytes) {A : Option Addr} {n cap i : Nat} (hn : i ≤ n) (w : World) : (Instr.sliceAt tS (.slice A n cap) (some (.int .i64 i)) none none).run P w = .ok (sliced A i n cap size) w := by
  have hu : P.underlying tS = some (.slice (P.elem tS)) := by rw [ht.elem]; exact ht.ht
  rw [run_sliceAt_slice (h := hu), run_slice_l (ht := hu) (h0 := by omega) (h1 := by omega), ht.elem, ht.sizeOf]
  simp only [Result.andThen_ok, Int.toNat_natCast]
theorem Hs.sloA (ht : ElemT P tS E size bytes) {A : Option Addr} {len cap i : Nat} (hn : i ≤ len) (hs : semOf n β m = some (valS (Instr.sliceAt tS (.slice A len cap) (some (.int .i64 i)) none none))) (h : Hs P f R n w0 L β (m.put (dstOf m) (.c (.v (sliced A i len cap size))) m.hp)) : Hs P f R n w0 L β m :=
  Hs.opV (.c (.v (sliced A i len cap size))) hs rfl (fun w _ => run_sloA ht hn w) h
theorem Mem.reS {w w' : World} {hp : List HB} (H : Mem w0 L β hp w) (k : Nat) {g cap nl nl' : Nat} {vs vs' : List Value} (hk : hp[k]? = some (.s (some ⟨g, 0, none⟩) cap nl E size vs)) (O : Only [g] w w') (hO : w'.ownsRow 0 E size (.slice (some ⟨g, 0, none⟩) nl' cap) nl' vs') : Mem w0 L β (hp.set k (.s (some ⟨g, 0, none⟩) cap nl' E size vs')) w' :=
  H.swap k hk O (fun x hx => by simp only [List.mem_singleton] at hx; subst hx; rfl) rfl hO (fun x hx => .inl hx)
/-- s[:len + d] within its room: what lies there is unknown. -/
theorem Hs.wide (k : Nat) {g cap nl : Nat} {vs : List Value} (hk : m.hp[k]? = some (.s (some ⟨g, 0, none⟩) cap nl E size vs)) (d : Nat) (hle : nl + d ≤ cap) (hrd : (rdOf m).contains k = false)
    (h : ∀ junk, junk.length = d * size → Hs P f R n w0 L β ⟨m.r, m.todo, m.sl, m.hp.set k (.s (some ⟨g, 0, none⟩) cap (nl + d) E size (vs ++ junk))⟩) (hno : (match m.r with | .no => true | .lst .. => true | .lstN .. => true | _ => false) = true) : Hs P f R n w0 L β m := by
  refine ⟨fun w H W => ?_⟩
  have hl : w.ownsRow 0 E size (.slice (some ⟨g, 0, none⟩) nl cap) nl vs := H.lies k _ hk
  obtain ⟨h1, ⟨h2, _⟩ | ⟨g', c', cur, e, hg, hh, hc, hm, hs, ht⟩⟩ := hl
  · injection h2 with h2; cases h2
  injection e with e1 e2 e3
  injection e1 with e1
  injection e1 with e1
  subst e1; subst e3
  have hmul : (nl + d) * size = nl * size + d * size := Nat.add_mul _ _ _
  have hle2 : (nl + d) * size ≤ cap * size := Nat.mul_le_mul_right _ hle
  have hlen : cur.toList.length = cap * size := by rw [Array.length_toList, hs]
  have hj : ((cur.toList.drop (nl * size)).take (d * size)).length = d * size := by
    rw [List.length_take, List.length_drop]; omega
  have e : cur.toList.take ((nl + d) * size) = vs ++ (cur.toList.drop (nl * size)).take (d * size) := by
    rw [hmul, List.take_add, ht]
  have H' : Mem w0 L β (m.hp.set k (.s (some ⟨g, 0, none⟩) cap (nl + d) E size (vs ++ (cur.toList.drop (nl * size)).take (d * size)))) w :=
    H.reS k hk (Only.refl _ _) ⟨by rw [List.length_append, h1, hj, hmul], .inr ⟨g, cap, cur, rfl, hg, hh, hle, hm, hs, e⟩⟩
  have g2 := (h _ hj).go w H' (by
    simp only [SM.wf, Bool.and_eq_true, List.length_set]
    exact ⟨SM.wf_sl W, set_wf (SM.wf_hp W) rfl⟩)
  obtain ⟨r, todo, sl, hp⟩ := m
  unfold Gs at g2 ⊢
  dsimp only at g2 ⊢ hno
  split at hno <;> first | exact g2 | cases hno
theorem run_copyX (ht : ElemT P tS E size bytes) {g o dLen dc sLen sc ty : Nat} {a : Addr} {src vs : List Value} {w : World} {T : Nat} (hsl : src.length = Nat.min sLen dLen * size) (hsrc : ∀ j v, src[j]? = some v → w.cell? (a.add j) = some v) (hB : Blk w g T vs) (hle : o + src.length ≤ vs.length) (h1 : ∀ v ∈ src, v.oneCell' = true) :
    (Builtin.copy_ #[tS, tS] ty #[.slice (some ⟨g, o, none⟩) dLen dc, .slice (some a) sLen sc]).run P w = .ok (goInt (Nat.min sLen dLen)) (w.setCells g o src) := by
  have hl := run_loadCells_list (P := P) w a src hsrc
  have hst := run_storeCells_cells (P := P) g o src 0 w (fun j hj => by
        simpa using (blk_there hB o src.length hle j (by simpa using hj)).1) (fun j hj => by
        simpa using (blk_there hB o src.length hle j (by simpa using hj)).2) h1
  simp only [Nat.add_zero] at hst
  obtain ⟨hu, ⟨i, z, hi, _, hsz, _⟩, _⟩ := ht
  simp [Builtin.copy_, run_underlying hu, Builtin.lenOf, Builtin.firstCells, Go.sizeOf, typeInfo, hi, hsz, ← hsl, hl, hst]
/-- copy(s[o:], y), s of ours: all that y has goes over. -/
theorem Hs.cpS (k : Nat) (ht : ElemT P tS E size bytes) {g cap nl : Nat} {vs : List Value} (hk : m.hp[k]? = some (.s (some ⟨g, 0, none⟩) cap nl E size vs)) (o dLen dc sLen sc q ty : Nat) (hq : q = Nat.min sLen dLen) {b so : Nat} (src : List Value) (hsl : src.length = q * size) (hfit : o + q ≤ nl)
    (hs : semOf n β m = some (valS (Builtin.copy_ #[tS, tS] ty #[.slice (some ⟨g, 0 + o * size, none⟩) dLen dc, .slice (some ⟨b, so, none⟩) sLen sc]))) (hrd : (rdOf m).contains k = false)
    (hsrc : ∀ w, Mem w0 L β m.hp w → ∀ j v, src[j]? = some v → w.cell? ⟨b, so + j, none⟩ = some v) (h1 : ∀ v ∈ src, v.oneCell' = true)
    (h : Hs P f R n w0 L β (m.put (dstOf m) (.c (.v (goInt q))) (m.hp.set k (.s (some ⟨g, 0, none⟩) cap nl E size (splice vs (o * size) src))))) : Hs P f R n w0 L β m := by
  rw [Nat.zero_add] at hs
  refine Hs.opW hs fun w H W => ?_
  have hl : w.ownsRow 0 E size (.slice (some ⟨g, 0, none⟩) nl cap) nl vs := H.lies k _ hk
  obtain ⟨hv, ⟨h2, _⟩ | ⟨g', c', cur, e, hg, hh, hc, hm, hsz, htk⟩⟩ := hl
  · injection h2 with h2; cases h2
  injection e with e1 e2 e3
  injection e1 with e1
  injection e1 with e1
  subst e1; subst e3
  have hB : Blk w g E cur.toList := by
    show w.heap[g]? = _
    rw [hh]
  have hlen : cur.toList.length = cap * size := by rw [Array.length_toList, hsz]
  have hm1 : (o + q) * size = o * size + q * size := Nat.add_mul _ _ _
  have hm2 : (o + q) * size ≤ nl * size := Nat.mul_le_mul_right _ hfit
  have hm3 : nl * size ≤ cap * size := Nat.mul_le_mul_right _ hc
  have hrun := run_copyX (P := P) (ty := ty) (dc := dc) (sc := sc) ht (by rw [hsl, hq]) (fun j v hj => by rw [Addr.add_mid]; exact hsrc w H j v hj) hB (by omega : o * size + src.length ≤ _) h1
  rw [← hq] at hrun
  have hB' := blk_setCells src (o * size) w cur.toList hB (by omega)
  refine ⟨[], .c (.v (goInt q)), m.hp.set k (.s (some ⟨g, 0, none⟩) cap nl E size (splice vs (o * size) src)), _, hrun, ?_, ?_, fun j hj b hb => ?_, by rw [List.append_nil]; exact h⟩
  · rw [List.append_nil]
    refine H.reS k hk (only_setCells _ _ _) ⟨?_, .inr ⟨g, cap, (splice cur.toList (o * size) src).toArray, rfl, hg, hB', hc, hm, ?_, ?_⟩⟩
    · simp only [splice, List.length_append, List.length_take, List.length_drop]; omega
    · simp only [List.size_toArray, splice, List.length_append, List.length_take, List.length_drop]; omega
    · simp only [List.toList_toArray]
      rw [← htk]
      generalize nl * size = N at *
      generalize o * size = J at *
      generalize cap * size = C at *
      generalize cur.toList = cl at *
      unfold splice
      rw [List.take_take, Nat.min_eq_left (by omega), List.take_append, List.take_of_length_le (by rw [List.length_take]; omega), List.length_take, Nat.min_eq_left (by omega)]
      congr 1
      rw [List.take_append, List.take_of_length_le (by omega)]
      congr 1
      rw [List.drop_take]
      congr 1
      omega
  · simp only [SV.wf, SC.wf, Bool.true_and, Bool.and_eq_true, Nat.ble_eq, List.length_set]
    exact ⟨Nat.le_refl _, set_wf (SM.wf_hp W) rfl⟩
  · rw [List.getElem?_set, if_neg (fun e => by
      subst e
      simp at hrd
      exact hrd hj)]
    exact hb
/-- append(s[:i], make(T, q)...) where there is no room: a new row. -/
theorem Hs.growZ (ht : ElemT P tS E size bytes) {tn ty : Nat} (htn : P.underlying tn = some (.int .i64)) {g i cap q : Nat} (olds : List Value) (hol : olds.length = i * size) (hq : 0 < q) (hg : cap < i + q) (hm : i + q ≤ maxLen) (hb : (i + q) * bytes ≤ 140737488355328)
    (hs : semOf n β m = some (valS (Builtin.append_ #[tS, tn] ty #[.slice (some ⟨g, 0, none⟩) i cap, .int .i64 q]))) (hold : ∀ w, Mem w0 L β m.hp w → ∀ j v, olds[j]? = some v → w.cell? ⟨g, j, none⟩ = some v) (hrd : (rdOf m).all (fun k => Nat.blt k m.hp.length) = true)
    (h : ∀ g2 cap2 zs, zs.length = q * size → i + q ≤ cap2 → cap2 ≤ maxLen → Hs P f R n w0 L (β ++ [0]) (m.put (dstOf m) (.c (.v (.slice (some ⟨g2, 0, none⟩) (i + q) cap2))) (m.hp ++ [.s (some ⟨g2, 0, none⟩) cap2 (i + q) E size (olds ++ zs)]))) : Hs P f R n w0 L β m := by
  refine Hs.opW hs fun w H W => ?_
  obtain ⟨hu, ⟨i0, z, hi, hz, hsz, hby, hzs⟩, hpos⟩ := ht
  subst hsz
  subst hby
  have hf : (Builtin.firstCells i0.size i (.slice (some ⟨g, 0, none⟩) i cap)).run P w.drew = .ok olds.toArray w.drew := by
    have := run_loadCells_list (P := P) w.drew ⟨g, 0, none⟩ olds (fun j v hj => by
      rw [Addr.add_mid, Nat.zero_add]
      exact hold w H j v hj)
    simpa [Builtin.firstCells, hol] using this
  have h48 : q * i0.bytes ≤ (i + q) * i0.bytes := Nat.mul_le_mul_right _ (by omega)
  have hrun := Lib.run_append_grow_zeros (P := P) w tS tn ty E i0 z .i64 .i64 hu htn hi hz (some ⟨g, 0, none⟩) i cap olds hf q hq hpos hg (by unfold maxLen at hm; omega) (by omega) (growslice_fits (by omega) hb)
  have hge := grownCap_ge w (i + q) cap E
  have hcm : grownCap w (i + q) cap E ≤ maxLen := grownCap_le_maxLen w (i + q) cap E hm
  have hw := SM.wf_hp W
  have hzl : (Builtin.zeroCells z.cells q).toList.length = q * i0.size := by rw [zero_len, hzs]
  refine ⟨[0], .c (.v (.slice (some ⟨w.heap.size, 0, none⟩) (i + q) (grownCap w (i + q) cap E))), m.hp ++ [.s (some ⟨w.heap.size, 0, none⟩) (grownCap w (i + q) cap E) (i + q) E i0.size (olds ++ (Builtin.zeroCells z.cells q).toList)], _, hrun, ?_, ?_, fun k hk b hh => ?_, h w.heap.size _ _ hzl hge hcm⟩
  · refine H.push (h := .s _ _ _ _ _ _) (by rw [H.len]; exact hw) ?_ (fun y hy => ?_) ?_
    · exact ⟨rfl, rfl, rfl, by simp, fun k hk _ => heap_alloc_old _ _ hk⟩
    · simp only [HB.blk, Option.map_some, Option.some.injEq] at hy
      subst hy
      exact Nat.le_refl _
    · refine ⟨by rw [List.length_append, hol, hzl, Nat.add_mul], .inr ⟨w.heap.size, _, _, rfl, Nat.zero_le _, heap_alloc_new w.drew _, hge, hcm, ?_, ?_⟩⟩
      · simp only [Array.size_append, List.size_toArray, size_zeroCells, hzs, hol, ← Nat.add_mul]
        congr 1
        omega
      · simp only [Array.toList_append, List.append_assoc]
        rw [← List.append_assoc]
        exact List.take_left' (by rw [List.length_append, hol, hzl, Nat.add_mul])
  · simp only [SV.wf, SC.wf, Bool.true_and, Bool.and_eq_true, Nat.ble_eq, List.length_append, List.length_cons, List.length_nil, List.all_append, List.all_cons, List.all_nil, Bool.and_true]
    refine ⟨by omega, List.all_eq_true.2 fun y hy => ?_, rfl⟩
    have h1 := List.all_eq_true.1 hw y hy
    cases y with
    | no => rfl
    | s => rfl
    | q => rfl
    | r _ _ _ => rfl
    | b _ _ cs => exact List.all_eq_true.2 fun z hz => SC.wf_mono (by omega) (List.all_eq_true.1 h1 z hz)
  · rw [List.getElem?_append_left (List.getElem?_eq_some_iff.1 hh).1]; exact hh
/-- The one operation that may come. -/
theorem Hs.sel1 (i : Nat) (hc : rdyOf m = some [i]) (h : Hs P f R n w0 L β (selM i m)) : Hs P f R n w0 L β m :=
  Hs.branch [i] hc (by simp) fun k hk => by
    obtain rfl := List.mem_singleton.1 hk
    exact h
theorem Hs.takeSlo (j : Nat) (ht : ElemT P tS E size bytes) {rd : List Nat} {g off len cap i : Nat} (hi : i < cap) (hn : i ≤ len) (hs : semAt j n β m = some (valS (Instr.sliceAt tS (.slice (some ⟨g, off, none⟩) len cap) (some (.int .i64 i)) none none), rd)) (h : Hs P f R n w0 L β (takeM j (.c (.v (.slice (some ⟨g, off + i * size, none⟩) (len - i) (cap - i)))) m)) : Hs P f R n w0 L β m :=
  Hs.takeV j (.c (.v (.slice (some ⟨g, off + i * size, none⟩) (len - i) (cap - i)))) hs rfl (fun w _ => run_slo ht hi hn w) h
end
end Go.Proofs.YtdplnedpbkpgpaaGreatDoor

namespace Go.Proofs.YtdplnedpbkpgpaaGreatDoor
set_option linter.all false
set_option maxRecDepth 100000
open Go.RowKit Go.MapKept

section
variable {P : Program} {f : FuncId} {R : Ending → World → Prop} {n : Nat} {w0 : World} {L : List Nat} {β : List Nat} {m : SM}
variable {κ : Type} [DecidableEq κ]
/-- How a key stands as a value. -/
structure KeyT (P : Program) (T kt et : TypeId) (z : Value) (ke : κ → Value) : Prop where
  hm : P.underlying T = some (.map kt et)
  zero : ∀ w, (zeroValue et).run P w = .ok z w
  d : ∃ d, P.underlying kt = some d ∧ ∀ a, IsKey d (ke a)
  inj : ∀ a b, ke a = ke b → a = b
def MapM (ke : κ → Value) (w : World) (r : Nat) (es : List (κ × Value)) : Prop := ∃ (a : Array MapEntry) (clock : Nat), w.heap[r]? = some (.map a clock) ∧ a.toList.map (fun e => (e.key, e.val)) = es.map (fun p => (ke p.1, p.2))
def lookM (k : κ) : List (κ × Value) → Option Value
  | [] => none
  | p :: es => if p.1 = k then some p.2 else lookM k es
variable {T kt et : TypeId} {z : Value} {ke : κ → Value}
theorem findNow_M {d : TypeDesc} (hk : ∀ a, IsKey d (ke a)) (hi : ∀ a b, ke a = ke b → a = b) (k : κ) : ∀ (l : List MapEntry) (es : List (κ × Value)) (i : Nat), l.map (fun e => (e.key, e.val)) = es.map (fun p => (ke p.1, p.2)) → ∃ o : Option (Nat × Value), Instr.findNow d (ke k) l i = some o ∧ o.map (·.2) = lookM k es
  | [], [], i, _ => ⟨none, rfl, rfl⟩
  | [], _ :: _, i, h => by simp at h
  | _ :: _, [], i, h => by simp at h
  | e :: l, p :: es, i, h => by
    simp only [List.map_cons, List.cons.injEq, Prod.mk.injEq] at h
    obtain ⟨⟨h1, h2⟩, h3⟩ := h
    obtain ⟨r, hr, hiff⟩ := sameNow_of_keys (hk k) (show IsKey d e.key by rw [h1]; exact hk _)
    cases r with
    | true =>
      have e1 : p.1 = k := hi _ _ (by rw [← h1]; exact (hiff.1 rfl).symm)
      exact ⟨some (i, e.val), by simp [Instr.findNow, hr], by simp [lookM, e1, h2]⟩
    | false =>
      have e1 : ¬ p.1 = k := fun he => by
        have := hiff.2 (by rw [h1, he])
        cases this
      obtain ⟨o, ho1, ho2⟩ := findNow_M hk hi k l es (i + 1) h3
      exact ⟨o, by simp [Instr.findNow, hr, ho1], by simp [lookM, e1, ho2]⟩
theorem run_lookM (ht : KeyT P T kt et z ke) {w : World} {r : Nat} {es : List (κ × Value)} (hM : MapM ke w r es) (k : κ) (ok : Bool) : (Instr.lookup T (.map (some r)) (ke k) ok).run P w = .ok (if ok then .tuple #[(lookM k es).getD z, .bool (lookM k es).isSome] else (lookM k es).getD z) w := by
  obtain ⟨d, hd, hk⟩ := ht.d
  obtain ⟨a, clock, hb, he⟩ := hM
  obtain ⟨o, ho1, ho2⟩ := findNow_M hk ht.inj k a.toList es 0 he
  have hck := run_checkKey (w := w) hd (hk k) a.isEmpty 9999
  have hf := run_findKey (w := w) hd ho1
  rw [← ho2]
  cases o with
  | none => simp [Instr.lookup, run_underlying ht.hm, MapKept.run_getObj_map hb, hck, hf, ht.zero w, Result.andThen]
  | some p => simp [Instr.lookup, run_underlying ht.hm, MapKept.run_getObj_map hb, hck, hf, Result.andThen]
theorem run_putM (ht : KeyT P T kt et z ke) {w : World} {r : Nat} {es : List (κ × Value)} (hM : MapM ke w r es) (k : κ) (hn : lookM k es = none) (v : Value) : ∃ w', (Instr.mapUpdate T (.map (some r)) (ke k) v).run P w = .ok () w' ∧ MapM ke w' r (es ++ [(k, v)]) ∧ Only [r] w w' := by
  obtain ⟨d, hd, hk⟩ := ht.d
  obtain ⟨a, clock, hb, he⟩ := hM
  obtain ⟨o, ho1, ho2⟩ := findNow_M hk ht.inj k a.toList es 0 he
  rw [hn] at ho2
  have ho : o = none := by cases o with
    | none => rfl
    | some p => cases ho2
  subst ho
  have hck := run_checkKey (w := w) hd (hk k) false 9999
  have hf := run_findKey (w := w) hd ho1
  have hs := heap_set (o' := .map (a.push { key := ke k, val := v, born := clock }) (clock + 1)) hb
  refine ⟨{ w with heap := w.heap.setIfInBounds r (.map (a.push { key := ke k, val := v, born := clock }) (clock + 1)) }, ?_, ⟨_, _, hs.1, by simp [he]⟩, ⟨rfl, rfl, rfl, by simp, fun b _ hb => hs.2 b (by simpa using hb)⟩⟩
  simp [Instr.mapUpdate, run_underlying ht.hm, MapKept.run_getObj_map hb, hck, hf, MapKept.run_setObj_map _ hb, Result.andThen]
theorem MapM.st {r : Nat} {es : List (κ × Value)} (w w' : World) (h1 : ∀ a, (some ⟨r, 0, none⟩ : Option Addr) = some a → w'.heap[a.block]? = w.heap[a.block]?) (h2 : w.heap.size ≤ w'.heap.size) (h : MapM ke w r es) : MapM ke w' r es := by
  obtain ⟨a, clock, hb, he⟩ := h
  exact ⟨a, clock, (h1 _ rfl).trans hb, he⟩
theorem MapM.only {r : Nat} {es : List (κ × Value)} {w w' : World} (h : MapM ke w r es) (O : Only L w w') (hr : r ∉ L) : MapM ke w' r es := by
  obtain ⟨a, clock, hb, he⟩ := h
  exact ⟨a, clock, (O.block r (Array.getElem?_eq_some_iff.1 hb).1 hr).trans hb, he⟩
theorem MapM.lt {r : Nat} {es : List (κ × Value)} {w : World} (h : MapM ke w r es) : r < w.heap.size := by
  obtain ⟨a, clock, hb, he⟩ := h
  exact (Array.getElem?_eq_some_iff.1 hb).1
/-- The block of a map. -/
def HB.mp (ke : κ → Value) (r : Nat) (es : List (κ × Value)) : HB := .q true (some ⟨r, 0, none⟩) (fun w => MapM ke w r es) MapM.st
/-- make(map[..]..) -/
theorem Hs.mkM (ke : κ → Value) (hs : semOf n β m = some (valS (Instr.makeMap T none))) (hrd : (rdOf m).all (fun k => Nat.blt k m.hp.length) = true) (h : ∀ r, Hs P f R n w0 L (β ++ [r]) (m.put (dstOf m) (.c (.v (.map (some r)))) (m.hp ++ [HB.mp ke r []]))) : Hs P f R n w0 L β m := by
  refine Hs.opW hs fun w H W => ?_
  have hw := SM.wf_hp W
  refine ⟨[w.heap.size], .c (.v (.map (some w.heap.size))), m.hp ++ [HB.mp ke w.heap.size []], _, rfl, H.push (by rw [H.len]; exact hw) ((Only.refl _ _).alloc _) (fun x hx => ?_) ⟨⟨#[], 0, heap_alloc_new w _, rfl⟩, fun a ha => ?_⟩, ?_, fun k hk b hh => ?_, h _⟩
  · simp only [HB.mp, HB.blk, Option.map_some, Option.some.injEq] at hx; omega
  · injection ha with ha; subst ha; show w.heap.size < (w.heap.push _).size; rw [Array.size_push]; exact Nat.lt_succ_self _
  · simp only [SV.wf, SC.wf, Bool.true_and, Bool.and_eq_true, Nat.ble_eq, List.length_append, List.length_cons, List.length_nil, List.all_append, List.all_cons, List.all_nil, Bool.and_true]
    refine ⟨by omega, List.all_eq_true.2 fun y hy => ?_, rfl⟩
    have h1 := List.all_eq_true.1 hw y hy
    cases y with
    | no => rfl
    | s => rfl
    | q => rfl
    | r _ _ _ => rfl
    | b _ _ cs => exact List.all_eq_true.2 fun z hz => SC.wf_mono (by omega) (List.all_eq_true.1 h1 z hz)
  · rw [List.getElem?_append_left (List.getElem?_eq_some_iff.1 hh).1]; exact hh
/-- A new entry. -/
theorem Hs.putM (k : Nat) (ht : KeyT P T kt et z ke) {r : Nat} {es : List (κ × Value)} (key : κ) (v : Value) (hn : lookM key es = none) (hs : semOf n β m = some (unitS (Instr.mapUpdate T (.map (some r)) (ke key) v))) (hk : m.hp[k]? = some (HB.mp ke r es)) (hrd : (rdOf m).contains k = false)
    (h : Hs P f R n w0 L β (m.put (dstOf m) (.c (.v undef)) (m.hp.set k (HB.mp ke r (es ++ [(key, v)]))))) : Hs P f R n w0 L β m := by
  refine Hs.opU hs fun w H W => ?_
  have hM : MapM ke w r es := H.atQ k (wr := true) (A := some ⟨r, 0, none⟩) (Q := fun w => MapM ke w r es) (st := MapM.st) hk
  obtain ⟨w', hr, hM', O⟩ := run_putM ht hM key hn v
  have hl : (HB.mp ke r (es ++ [(key, v)])).lies w' β (nm β k) := ⟨hM', fun a ha => by injection ha with ha; subst ha; exact hM'.lt⟩
  refine ⟨m.hp.set k (HB.mp ke r (es ++ [(key, v)])), w', hr, H.swap k hk O (fun x hx => by simp only [List.mem_singleton] at hx; subst hx; rfl) rfl hl (fun x hx => .inl hx), ?_, fun j hj b hb => ?_, h⟩
  · simp only [Bool.and_eq_true, Nat.ble_eq, List.length_set]
    exact ⟨Nat.le_refl _, set_wf (SM.wf_hp W) rfl⟩
  · rw [List.getElem?_set, if_neg (fun e => by
      subst e
      simp at hrd
      exact hrd hj)]
    exact hb
theorem Mem.mapM {w : World} {hp : List HB} (H : Mem w0 L β hp w) (k : Nat) {r : Nat} {es : List (κ × Value)} (hk : hp[k]? = some (HB.mp ke r es)) : MapM ke w r es :=
  H.atQ k (wr := true) (A := some ⟨r, 0, none⟩) (Q := fun w => MapM ke w r es) (st := MapM.st) hk
/-- An entry read. -/
theorem Hs.getM (ht : KeyT P T kt et z ke) {r : Nat} {es : List (κ × Value)} (key : κ) (ok : Bool) (v : Value) (hv : (if ok then .tuple #[(lookM key es).getD z, .bool (lookM key es).isSome] else (lookM key es).getD z) = v) (hs : semOf n β m = some (valS (Instr.lookup T (.map (some r)) (ke key) ok))) (hM : ∀ w, Mem w0 L β m.hp w → MapM ke w r es)
    (h : Hs P f R n w0 L β (m.put (dstOf m) (.c (.v v)) m.hp)) : Hs P f R n w0 L β m :=
  Hs.opV (.c (.v v)) hs rfl (fun w H => by rw [run_lookM ht (hM w H) key ok, hv]; rfl) h
/-- An integer as a key. -/
def kI (q : IntKind) (k : Int) : Value := .int q k
theorem kI_inj {q : IntKind} (a b : Int) (h : kI q a = kI q b) : a = b := by injection h
end
end Go.Proofs.YtdplnedpbkpgpaaGreatDoor

namespace Go.Proofs.YtdplnedpbkpgpaaGreatDoor
set_option linter.all false
set_option maxRecDepth 100000

/-- What is left to be done behind a region. -/
def afterL (id : Nat) : Code → List Item → List (List Item)
  | .seq a b, k => afterL id a (.code b :: k) ++ afterL id b k
  | .cond _ x y, k => afterL id x k ++ afterL id y k
  | .block i c, k => afterL id c (.inBlock i :: k)
  | .scope c, k => afterL id c (.inScope c :: k)
  | .loop c, k => afterL id c (.inLoop c :: k)
  | .region j _ _, k => match Nat.beq j id with
    | true => [k]
    | false => []
  | _, _ => []
def afterR (fn : Func) (id : Nat) : List Item := match afterL id (codeOf fn) [] with
  | k :: _ => k
  | [] => []
def stopAt (N : Nat) (m : SM) : Bool := match m.r with
  | .no => Nat.beq m.todo.length N
  | _ => false
section
variable (P : Program) (n : Nat) (β : List Nat)
def runU (N : Nat) (ge : List Nat) : Nat → SM → SM
  | 0, m => m
  | k + 1, m => match stopAt N m with
    | true => m
    | false => match oneStep P n β ge m with
      | some m' => runU N ge k m'
      | none => m
end
section
variable {P : Program} {f : FuncId} {R : Ending → World → Prop} {n : Nat} {w0 : World} {L : List Nat} {β : List Nat} {m : SM} {ge : List Nat} {N : Nat}

theorem runU_sound : ∀ (k : Nat) (β : List Nat) (m : SM) (w : World), Mem w0 L β m.hp w → m.wf = true → (∀ ν w', Mem w0 L (β ++ ν) (runU P n (β ++ ν) N ge k m).hp w' → (runU P n (β ++ ν) N ge k m).wf = true → Gs P f R n (β ++ ν) (runU P n (β ++ ν) N ge k m) w') → Gs P f R n β m w
  | 0, β, m, w, H, W, h => by
    have := h [] w
    simp only [List.append_nil] at this
    exact this H W
  | k + 1, β, m, w, H, W, h => by
    cases hst : stopAt N m with
    | true =>
      have := h [] w
      simp only [List.append_nil, runU, hst] at this
      exact this H W
    | false =>
      cases hs : oneStep P n β ge m with
      | none =>
        have := h [] w
        simp only [List.append_nil, runU, hst, hs] at this
        exact this H W
      | some m' =>
        refine oneStep_sound H W hs fun ν w' H' W' => ?_
        refine runU_sound k (β ++ ν) m' w' H' W' fun ν' w'' H'' W'' => ?_
        have e : oneStep P n (β ++ ν ++ ν') ge m = some m' := by
          rw [List.append_assoc, oneStep_app H.len W]; exact hs
        have := h (ν ++ ν') w''
        rw [← List.append_assoc] at this
        simp only [runU, hst, e] at this
        exact this H'' W''
theorem Hs.runUL (N : Nat) (ge : List Nat) (k j : Nat) (hj : ∀ ν, Nat.beq (runU P n (β ++ ν) N ge k m).hp.length (β.length + j) = true) (h : ∀ ν : List Nat, ν.length = j → Hs P f R n w0 L (β ++ ν) (runU P n (β ++ ν) N ge k m)) : Hs P f R n w0 L β m :=
  ⟨fun w H W => runU_sound (N := N) (ge := ge) k β m w H W fun ν w' H' W' => (h ν (by
    have h1 := H'.len
    have h2 := Nat.eq_of_beq_eq_true (hj ν)
    rw [h2, List.length_append] at h1
    omega)).go w' H' W'⟩
theorem Hs.runU0 (N : Nat) (ge : List Nat) (k : Nat) (hj : ∀ ν, Nat.beq (runU P n (β ++ ν) N ge k m).hp.length (β.length + 0) = true) (h : Hs P f R n w0 L β (runU P n β N ge k m)) : Hs P f R n w0 L β m :=
  Hs.runUL N ge k 0 hj fun ν hν => by
    have e := List.length_eq_zero_iff.1 hν
    subst e
    rw [List.append_nil]
    exact h
theorem Hs.runU1 (N : Nat) (ge : List Nat) (k : Nat) (hj : ∀ ν, Nat.beq (runU P n (β ++ ν) N ge k m).hp.length (β.length + 1) = true) (h : ∀ b0 : Nat, Hs P f R n w0 L (β ++ [b0]) (runU P n (β ++ [b0]) N ge k m)) : Hs P f R n w0 L β m :=
  Hs.runUL N ge k 1 hj fun ν hν => by
    match ν, hν with
    | [b0], _ => exact h b0
theorem Hs.runU2 (N : Nat) (ge : List Nat) (k : Nat) (hj : ∀ ν, Nat.beq (runU P n (β ++ ν) N ge k m).hp.length (β.length + 2) = true) (h : ∀ b0 b1 : Nat, Hs P f R n w0 L (β ++ [b0, b1]) (runU P n (β ++ [b0, b1]) N ge k m)) : Hs P f R n w0 L β m :=
  Hs.runUL N ge k 2 hj fun ν hν => by
    match ν, hν with
    | [b0, b1], _ => exact h b0 b1
theorem Hs.runU3 (N : Nat) (ge : List Nat) (k : Nat) (hj : ∀ ν, Nat.beq (runU P n (β ++ ν) N ge k m).hp.length (β.length + 3) = true) (h : ∀ b0 b1 b2 : Nat, Hs P f R n w0 L (β ++ [b0, b1, b2]) (runU P n (β ++ [b0, b1, b2]) N ge k m)) : Hs P f R n w0 L β m :=
  Hs.runUL N ge k 3 hj fun ν hν => by
    match ν, hν with
    | [b0, b1, b2], _ => exact h b0 b1 b2
end
/-! Up to a region. -/
def atL (id : Nat) : Code → List Item → List (List Item)
  | .seq a b, k => atL id a (.code b :: k) ++ atL id b k
  | .cond _ x y, k => atL id x k ++ atL id y k
  | .block i c, k => atL id c (.inBlock i :: k)
  | .scope c, k => atL id c (.inScope c :: k)
  | .loop c, k => atL id c (.inLoop c :: k)
  | .region j ops d, k => match Nat.beq j id with
    | true => [.code (.region j ops d) :: k]
    | false => []
  | _, _ => []
def atR (fn : Func) (id : Nat) : List Item := match atL id (codeOf fn) [] with
  | k :: _ => k
  | [] => []
def stopR (id : Nat) (m : SM) : Bool := match m.r with
  | .no => match m.todo with
    | .code (.region j _ _) :: _ => Nat.beq j id
    | _ => false
  | _ => false
section
variable (P : Program) (n : Nat) (β : List Nat)
def runR (N : Nat) (ge : List Nat) : Nat → SM → SM
  | 0, m => m
  | k + 1, m => match stopR N m with
    | true => m
    | false => match oneStep P n β ge m with
      | some m' => runR N ge k m'
      | none => m
end
section
variable {P : Program} {f : FuncId} {R : Ending → World → Prop} {n : Nat} {w0 : World} {L : List Nat} {β : List Nat} {m : SM} {ge : List Nat} {N : Nat}

theorem runR_sound : ∀ (k : Nat) (β : List Nat) (m : SM) (w : World), Mem w0 L β m.hp w → m.wf = true → (∀ ν w', Mem w0 L (β ++ ν) (runR P n (β ++ ν) N ge k m).hp w' → (runR P n (β ++ ν) N ge k m).wf = true → Gs P f R n (β ++ ν) (runR P n (β ++ ν) N ge k m) w') → Gs P f R n β m w
  | 0, β, m, w, H, W, h => by
    have := h [] w
    simp only [List.append_nil] at this
    exact this H W
  | k + 1, β, m, w, H, W, h => by
    cases hst : stopR N m with
    | true =>
      have := h [] w
      simp only [List.append_nil, runR, hst] at this
      exact this H W
    | false =>
      cases hs : oneStep P n β ge m with
      | none =>
        have := h [] w
        simp only [List.append_nil, runR, hst, hs] at this
        exact this H W
      | some m' =>
        refine oneStep_sound H W hs fun ν w' H' W' => ?_
        refine runR_sound k (β ++ ν) m' w' H' W' fun ν' w'' H'' W'' => ?_
        have e : oneStep P n (β ++ ν ++ ν') ge m = some m' := by
          rw [List.append_assoc, oneStep_app H.len W]; exact hs
        have := h (ν ++ ν') w''
        rw [← List.append_assoc] at this
        simp only [runR, hst, e] at this
        exact this H'' W''
theorem Hs.runRL (N : Nat) (ge : List Nat) (k j : Nat) (hj : ∀ ν, Nat.beq (runR P n (β ++ ν) N ge k m).hp.length (β.length + j) = true) (h : ∀ ν : List Nat, ν.length = j → Hs P f R n w0 L (β ++ ν) (runR P n (β ++ ν) N ge k m)) : Hs P f R n w0 L β m :=
  ⟨fun w H W => runR_sound (N := N) (ge := ge) k β m w H W fun ν w' H' W' => (h ν (by
    have h1 := H'.len
    have h2 := Nat.eq_of_beq_eq_true (hj ν)
    rw [h2, List.length_append] at h1
    omega)).go w' H' W'⟩
theorem Hs.runR0 (N : Nat) (ge : List Nat) (k : Nat) (hj : ∀ ν, Nat.beq (runR P n (β ++ ν) N ge k m).hp.length (β.length + 0) = true) (h : Hs P f R n w0 L β (runR P n β N ge k m)) : Hs P f R n w0 L β m :=
  Hs.runRL N ge k 0 hj fun ν hν => by
    have e := List.length_eq_zero_iff.1 hν
    subst e
    rw [List.append_nil]
    exact h
theorem Hs.runR1 (N : Nat) (ge : List Nat) (k : Nat) (hj : ∀ ν, Nat.beq (runR P n (β ++ ν) N ge k m).hp.length (β.length + 1) = true) (h : ∀ b0 : Nat, Hs P f R n w0 L (β ++ [b0]) (runR P n (β ++ [b0]) N ge k m)) : Hs P f R n w0 L β m :=
  Hs.runRL N ge k 1 hj fun ν hν => by
    match ν, hν with
    | [b0], _ => exact h b0
theorem Hs.runR2 (N : Nat) (ge : List Nat) (k : Nat) (hj : ∀ ν, Nat.beq (runR P n (β ++ ν) N ge k m).hp.length (β.length + 2) = true) (h : ∀ b0 b1 : Nat, Hs P f R n w0 L (β ++ [b0, b1]) (runR P n (β ++ [b0, b1]) N ge k m)) : Hs P f R n w0 L β m :=
  Hs.runRL N ge k 2 hj fun ν hν => by
    match ν, hν with
    | [b0, b1], _ => exact h b0 b1
theorem Hs.runR3 (N : Nat) (ge : List Nat) (k : Nat) (hj : ∀ ν, Nat.beq (runR P n (β ++ ν) N ge k m).hp.length (β.length + 3) = true) (h : ∀ b0 b1 b2 : Nat, Hs P f R n w0 L (β ++ [b0, b1, b2]) (runR P n (β ++ [b0, b1, b2]) N ge k m)) : Hs P f R n w0 L β m :=
  Hs.runRL N ge k 3 hj fun ν hν => by
    match ν, hν with
    | [b0, b1, b2], _ => exact h b0 b1 b2
/-- Several ways come to one state. -/
theorem Hs.cut {ι : Type} (S : ι → List Nat × SM) (h : (∀ i, Hs P f R n w0 L (S i).1 (S i).2) → Hs P f R n w0 L β m) (k : ∀ i, Hs P f R n w0 L (S i).1 (S i).2) : Hs P f R n w0 L β m := h k
section
variable {α : Type} {cf : α → List Value} {tS E size bytes : Nat}
theorem Hs.takeIdx (j : Nat) (ht : ElemT P tS E size bytes) {rd : List Nat} {b off len c i : Nat} (hi : i < len) (hs : semAt j n β m = some (valS (Instr.indexAt tS (.slice (some ⟨b, off, none⟩) len c) (.int .i64 i)), rd)) (h : Hs P f R n w0 L β (takeM j (.c (.v (.pointer (some ⟨b, off + i * size, none⟩)))) m)) : Hs P f R n w0 L β m :=
  Hs.takeV j (.c (.v (.pointer (some ⟨b, off + i * size, none⟩)))) hs rfl (fun w _ => run_idx ht hi w) h
theorem own_rd {w : World} {A : Option Addr} {cap nl : Nat} {l : List α} (hl : l.length = nl) (h : w.ownsRow 0 E size (.slice A nl cap) nl (l.flatMap cf)) : RdX cf w A l := by
  subst hl
  obtain ⟨A', cap', e, _, _, hr, _⟩ := (show OwnX cf E size w 0 (.slice A l.length cap) l from h).form
  injection e with e1
  subst e1
  exact hr
/-- An element of a row of ours, in a region that draws. -/
theorem Hs.takeLdS (j k : Nat) (hcl : ∀ x, (cf x).length = size) {E' : Nat} {rd : List Nat} {g i cap nl : Nat} {l : List α} {x : α} (v : SV) (hs : semAt j n β m = some (valS (Instr.loadAt E' (.pointer (some ⟨g, 0 + i * size, none⟩))), rd)) (hk : m.hp[k]? = some (.s (some ⟨g, 0, none⟩) cap nl E size (l.flatMap cf))) (hkr : rd.contains k = true) (hl : l.length = nl) (hx : l[i]? = some x) (ha : aggB P E' = some true) (hz : szB P E' = some size) (hv : v.den β = .agg (cf x).toArray) (hw : v.wf m.hp.length = true)
    (h : Hs P f R n w0 L β (takeM j v m)) : Hs P f R n w0 L β m :=
  Hs.takeV j v hs hw (fun w hI => by
    obtain ⟨d, hu, hd⟩ := aggB_row ha
    have hr : RdX cf w (some ⟨g, 0, none⟩) l := own_rd hl (hI k (by simpa using hkr) _ hk)
    rw [hv]
    exact run_loadAt_mid w g _ E' (cf x) d (rdX_range hcl hr hx) hu hd (by rw [szB_size hz, hcl])) h
end
end
end Go.Proofs.YtdplnedpbkpgpaaGreatDoor

namespace Go.Proofs.YtdplnedpbkpgpaaGreatDoor
set_option linter.all false
set_option maxRecDepth 100000

section
variable {P : Program} {f : FuncId} {R : Ending → World → Prop} {n : Nat} {w0 : World} {L : List Nat} {β : List Nat} {m : SM}
variable {α : Type} {cf : α → List Value} {tS E size bytes : Nat} {w w1 : World} {A : Option Addr} {l : List α}
/-- A slice that is read, and that none of L touches. -/
structure RdO (cf : α → List Value) (w : World) (L : List Nat) (A : Option Addr) (l : List α) : Prop where
  rd : RdX cf w A l
  out : ∀ a, A = some a → 0 < l.length → a.block ∉ L
theorem Mem.outL {hp : List HB} {a : Nat} (H : Mem w0 L β hp w) (h1 : a ∉ L) (h2 : a < w0.heap.size) : a ∉ wrN β hp := fun hx => by
  obtain ⟨k, h, b, e1, e2, e3, e4⟩ := wrN_mem.1 hx
  rcases H.own k h a e1 e3 (by rw [nm_get e2]; exact e4) with h | h
  · exact h1 h
  · omega
theorem RdO.now (h : RdO cf w0 L A l) {hp : List HB} (H : Mem w0 L β hp w) : RdX cf w A l := h.rd.far H.only fun a ha h0 => h.out a ha h0
theorem RdO.step (h : RdO cf w0 L A l) {hp : List HB} (H : Mem w0 L β hp w) : RdO cf w (wrN β hp) A l :=
  ⟨h.now H, fun a ha h0 => H.outL (h.out a ha h0) (by
    obtain ⟨b, off, e, hlt, _⟩ := h.rd h0
    rw [ha] at e; injection e with e; subst e; exact hlt)⟩
theorem RdO.only (h : RdO cf w L A l) (O : Only [] w w1) : RdO cf w1 L A l := ⟨h.rd.only O, h.out⟩
theorem RdO.new {L : List Nat} (h : RdX cf w1 A l) (hA : ∀ a, A = some a → w.heap.size ≤ a.block) (hL : ∀ y ∈ L, y < w.heap.size) : RdO cf w1 L A l :=
  ⟨h, fun a ha _ hm => by have := hL _ hm; have := hA a ha; omega⟩
theorem RdO.nil (h : RdX cf w A l) : RdO cf w [] A l := ⟨h, fun _ _ _ => by simp⟩
/-- One cell of an element that is only read. -/
theorem Hs.ldO {E' b off i j : Nat} {x : α} (hcl : ∀ x, (cf x).length = size) (h : RdO cf w0 L (some ⟨b, off, none⟩) l) (hx : l[i]? = some x) (v : Value) (hj : (cf x)[j]? = some v) (hs : semOf n β m = some (valS (Instr.loadAt E' (.pointer (some ⟨b, off + i * size + j, none⟩))))) (ha : aggB P E' = some false) (k : Hs P f R n w0 L β (m.put (dstOf m) (.c (.v v)) m.hp)) : Hs P f R n w0 L β m :=
  Hs.ldc v hs (fun w H => rdX_cell hcl (h.now H) hx hj) ha k
theorem RdO.stepL {L' : List Nat} {hp : List HB} (hL : L' = wrN β hp) (h : RdO cf w0 L A l) (H : Mem w0 L β hp w) : RdO cf w L' A l := by rw [hL]; exact h.step H
/-- A call whose answer is only read, as Hs.callE; what may be written is named. -/
theorem Hs.callF {X : Type} (v : X → Value) (Q : X → World → World → Prop) {F : FuncId} {args : Array Value} (hC : ∀ w, Mem w0 L β m.hp w → Calls P F args w fun e w' => ∃ x, e = .returned (v x) ∧ Only [] w w' ∧ Q x w w') (hc : callOf P n β m = some (F, args)) (hrd : rdOf m = [])
    (h : ∀ x w w1 L', L' = wrN β m.hp → Mem w0 L β m.hp w → Only [] w w1 → Q x w w1 → Back w0 L w1 L' → (∀ y ∈ L', y < w.heap.size) → Hs P f R n w1 L' β (m.put (dstOf m) (.c (.v (v x))) m.hp)) : Hs P f R n w0 L β m :=
  Hs.callE v Q hC hc hrd fun x w w1 H O q B hL => h x w w1 _ rfl H O q B hL
end
end Go.Proofs.YtdplnedpbkpgpaaGreatDoor

namespace Go.Proofs.YtdplnedpbkpgpaaGreatDoor
set_option linter.all false
set_option maxRecDepth 100000

def opsL (id : Nat) : Code → List (Array Oper)
  | .seq a b => opsL id a ++ opsL id b
  | .cond _ x y => opsL id x ++ opsL id y
  | .block _ c => opsL id c
  | .scope c => opsL id c
  | .loop c => opsL id c
  | .region j ops _ => match Nat.beq j id with
    | true => [ops]
    | false => []
  | _ => []
def opsOf (fn : Func) (id : Nat) : Array Oper := match opsL id (codeOf fn) with
  | o :: _ => o
  | [] => #[]
def anyAt (m : SM) : Option (Array Oper × Nat × Nat × List Nat × List Item) := match m.r with
  | .any ops f lm rd => match m.sl.ds with
    | [] => some (ops, f, lm, rd, m.todo)
    | _ => none
  | _ => none
section
variable {P : Program} {f : FuncId} {R : Ending → World → Prop} {n : Nat} {w0 : World} {L : List Nat} {β : List Nat} {m : SM}
theorem rdE_sub {ops : Array Oper} {lm : Nat} {rd : List Nat} {k : Nat} (h : k ∈ rdE ops lm rd) : k ∈ rdsOf rd := by
  unfold rdE at h
  split at h
  · cases h
  · exact h
/-- To a point within a region that draws. -/
theorem Hs.gotoA {ops : Array Oper} {fuel lm : Nat} {rd : List Nat} (T : List Item) (ks : List Nat) (hp' : List HB) (ps : List (Nat × SV)) (hT : anyAt m = some (ops, fuel, lm, rd, T)) (hn : ks.Nodup) (he : hp'.map (HB.val (ks.map (nm β))) = ks.map (hpAt β m.hp))
    (hs : ps.map (fun p => p.2.den (ks.map (nm β))) = ps.map (fun p => (m.sl.at p.1).den β)) (hw : ∀ u, (SM.wf ⟨.any ops fuel lm rd, T, pins ps (.vals u), hp'⟩) = true) (hk : ((rdsOf rd).all fun k => match ks[k]? with | some j => Nat.beq j k | none => false) = true) (h : ∀ u, Hs P f R n w0 L (ks.map (nm β)) ⟨.any ops fuel lm rd, T, pins ps (.vals u), hp'⟩) : Hs P f R n w0 L β m := by
  refine ⟨fun w H W => ?_⟩
  have g := (h fun i => (m.sl.at i).den β).go w (H.sub ks hn he) (hw _)
  obtain ⟨r, todo, sl, hp⟩ := m
  unfold anyAt at hT
  dsimp only at hT
  split at hT
  · rename_i ops0 f0 lm0 rd0
    split at hT
    rotate_left
    · cases hT
    rename_i hds
    injection hT with hT
    simp only [Prod.mk.injEq] at hT
    obtain ⟨rfl, rfl, rfl, rfl, rfl⟩ := hT
    have e : fr n (ks.map (nm β)) (pins ps (.vals fun i => (sl.at i).den β)) = fr n β sl := by
      unfold fr
      rw [pins_ds, hds]
      show Act.mk _ _ = Act.mk _ _
      congr 2
      refine List.map_congr_left fun i _ => ?_
      rw [pins_at]
      split
      · rename_i p hp
        have h1 := List.mem_of_find?_eq_some hp
        have h2 := List.find?_some hp
        simp only [decide_eq_true_eq] at h2
        have h3 := List.map_inj_left.1 hs p h1
        rw [h2]
        exact h3
      · rfl
    intro hcl hlm hns
    have g2 := g hcl hlm hns
    dsimp only at g2
    rw [e] at g2
    refine wpAnyE_turn (fun w2 hI k hkr b hb => ?_) g2
    have hkk := List.all_eq_true.1 hk k (rdE_sub hkr)
    split at hkk
    · rename_i j hj
      have hjk : j = k := Nat.eq_of_beq_eq_true hkk
      subst hjk
      have hlen : hp'.length = ks.length := by simpa using congrArg List.length he
      have hkl := (List.getElem?_eq_some_iff.1 hj).1
      have h1 := congrArg (·[j]?) he
      have hkp : j < hp'.length := by omega
      simp only [List.getElem?_map, List.getElem?_eq_getElem hkp, hj, Option.map_some, Option.some.injEq, hpAt, hb] at h1
      have h2 := hI j hkr _ (List.getElem?_eq_getElem hkp)
      have h3 : nm (ks.map (nm β)) j = nm β j := by
        simp [nm, List.getD, hj]
      rw [h3] at h2
      exact (HB.val_lies h1).1 h2
    · cases hkk
  · cases hT
theorem Hs.branch3 (i j k : Nat) (hc : rdyOf m = some [i, j, k]) (h1 : Hs P f R n w0 L β (selM i m)) (h2 : Hs P f R n w0 L β (selM j m)) (h3 : Hs P f R n w0 L β (selM k m)) : Hs P f R n w0 L β m :=
  Hs.branch _ hc (by simp) fun q hq => by
    simp at hq
    rcases hq with rfl | rfl | rfl
    · exact h1
    · exact h2
    · exact h3
theorem Hs.branch4 (i j k l : Nat) (hc : rdyOf m = some [i, j, k, l]) (h1 : Hs P f R n w0 L β (selM i m)) (h2 : Hs P f R n w0 L β (selM j m)) (h3 : Hs P f R n w0 L β (selM k m)) (h4 : Hs P f R n w0 L β (selM l m)) : Hs P f R n w0 L β m :=
  Hs.branch _ hc (by simp) fun q hq => by
    simp at hq
    rcases hq with rfl | rfl | rfl | rfl
    · exact h1
    · exact h2
    · exact h3
    · exact h4
end
end Go.Proofs.YtdplnedpbkpgpaaGreatDoor

namespace Go.Proofs.YtdplnedpbkpgpaaGreatDoor
set_option linter.all false

section
variable (P : Program)
def selfB : Nat → TypeId → Value → Bool
  | 0, _, _ => false
  | m + 1, t, v => match P.underlying t with
    | some .bool => match v with
      | .bool _ => true
      | _ => false
    | some (.int _) => match v with
      | .int _ _ => true
      | _ => false
    | some .string => match v with
      | .string _ => true
      | _ => false
    | some (.struct fs) => match v with
      | .agg xs => !P.stoodInHeld t && fs.toList.all fun f => f.name != "_" && (match partS P f.type (xs.toList.map .v) f.offset with
        | some u => selfB m f.type (u.den [])
        | none => false)
      | _ => false
    | _ => false
end
section
variable {P : Program}
theorem selfB_run : ∀ (m : Nat) (t : TypeId) (v : Value), selfB P m t v = true → ∀ (d : Nat) (w : World), (Op.equalIn (d + m) t v v).run P w = .ok true w
  | 0, t, v, h, d, w => by simp [selfB] at h
  | m + 1, t, v, h, d, w => by
    rw [show d + (m + 1) = (d + m) + 1 by omega]
    unfold selfB at h
    split at h
    · rename_i hu
      split at h
      · rename_i b; rw [run_equalIn_bool' w (d + m) t b b hu]; simp
      · cases h
    · rename_i k hu
      split at h
      · rename_i k' a; rw [run_equalIn_int w (d + m) t k' k a a hu]; simp
      · cases h
    · rename_i hu
      split at h
      · rename_i s; rw [run_equalIn_string w (d + m) t s s hu]; simp
      · cases h
    · rename_i fs hu
      split at h
      · rename_i xs
        simp only [Bool.and_eq_true, Bool.not_eq_true'] at h
        have hf : P.fieldsOf t = fs := by unfold Program.fieldsOf; rw [hu]
        rw [run_equalIn_struct w (d + m) t xs xs (by rw [hf]; exact hu) h.1, hf]
        have key : ∀ l : List Field, (l.all fun f => f.name != "_" && (match partS P f.type (xs.toList.map .v) f.offset with | some u => selfB P m f.type (u.den []) | none => false)) = true → (Op.eqFields (d + m) xs xs l).run P w = .ok true w := by
          intro l
          induction l with
          | nil => intro _; simp [Op.eqFields]
          | cons f l ih =>
            intro hl
            simp only [List.all_cons, Bool.and_eq_true] at hl
            obtain ⟨⟨h1, h2⟩, h3⟩ := hl
            split at h2
            · rename_i u hp
              have hpart : (part f.type xs f.offset).run P w = .ok (u.den []) w := by
                have := run_part_S (β := []) (w := w) hp
                rwa [dens_v, Array.toArray_toList] at this
              have hself := selfB_run m f.type (u.den []) h2 d w
              have hne : f.name ≠ "_" := by simpa using h1
              simp only [Op.eqFields, hne, ne_eq, not_false_eq_true, if_true, Sem.run_bind, hpart, Result.andThen_ok, hself, Bool.not_true, Bool.false_eq_true, if_false]
              exact ih h3
            · cases h2
        exact key fs.toList h.2
      · cases h
    · cases h
variable {f : FuncId} {R : Ending → World → Prop} {n : Nat} {w0 : World} {L : List Nat} {β : List Nat} {m : SM}
def sameOf (n : Nat) (β : List Nat) (m : SM) : Option (BinOp × TypeId × Value × Value) := match curOp m with
  | some o => match gOk m o with
    | true => match o.op with
      | .binOp op T x y _ => some (op, T, (evS n m.sl x).den β, (evS n m.sl y).den β)
      | _ => none
    | false => none
  | none => none
theorem run_same {op : BinOp} {T : TypeId} {xs : Array Value} {b : Bool} (ho : op = .eql ∧ b = true ∨ op = .neq ∧ b = false) (hm : P.eqGuardType P.depth T = false) (h : selfB P 100 T (.agg xs) = true) (x y : Operand) (w : World) : ((do eqGuard op T x y (.agg xs) (.agg xs); binOp op T (.agg xs) (.agg xs)) : Sem Value).run P w = .ok (.bool b) w := by
  have hr := selfB_run 100 T (.agg xs) h 9900 w
  rcases ho with ⟨rfl, rfl⟩ | ⟨rfl, rfl⟩
  · simp only [Sem.run_bind, run_eqGuard_agg w _ T x y xs xs hm, Result.andThen_ok, run_eql_struct]
    rw [show (10000 : Nat) = 9900 + 100 from rfl, hr]; rfl
  · simp only [Sem.run_bind, run_eqGuard_agg w _ T x y xs xs hm, Result.andThen_ok, run_neq_struct]
    rw [show (10000 : Nat) = 9900 + 100 from rfl, hr]; rfl
/-- A struct against itself. -/
theorem Hs.same {op : BinOp} {T : TypeId} (xs : Array Value) (b : Bool) (hc : sameOf n β m = some (op, T, .agg xs, .agg xs)) (ho : op = .eql ∧ b = true ∨ op = .neq ∧ b = false) (hm : (!P.eqGuardType P.depth T && selfB P 100 T (.agg xs)) = true) (h : Hs P f R n w0 L β (m.put (dstOf m) (.c (.v (.bool b))) m.hp)) : Hs P f R n w0 L β m := by
  simp only [Bool.and_eq_true, Bool.not_eq_true'] at hm
  refine ⟨fun w H W => ?_⟩
  unfold sameOf at hc
  split at hc
  · rename_i o hcur
    split at hc
    · rename_i hg
      split at hc
      · rename_i op' T' x y z hop
        simp only [Option.some.injEq, Prod.mk.injEq] at hc
        obtain ⟨rfl, rfl, hx, hy⟩ := hc
        have hd : dstOf m = o.dst := by unfold dstOf; rw [hcur]
        rw [hd] at h
        refine Gs.val (v := .c (.v (.bool b))) hcur hg ?_ (h.go w H ?_)
        · have hr := run_same (P := P) ho hm.1 hm.2 x y w
          simp only [execOp, hop, hx, hy, Sem.run_bind] at hr ⊢
          simp only [hr, Result.andThen_ok, Sem.run_pure]
          rfl
        · simp only [SM.wf, SM.put, Bool.and_eq_true]
          exact ⟨putS_wf (SM.wf_sl W) rfl, SM.wf_hp W⟩
      · cases hc
    · cases hc
  · cases hc
end
end Go.Proofs.YtdplnedpbkpgpaaGreatDoor
