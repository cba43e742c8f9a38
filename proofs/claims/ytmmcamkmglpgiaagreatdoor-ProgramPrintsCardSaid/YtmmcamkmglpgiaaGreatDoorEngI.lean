/- The machine: calls that are gone into, another world to count from, slices of our own behind a call, an element stored; over any program; no condition. -/
import Derived.Test.YtmmcamkmglpgiaaGreatDoorEngF
namespace Go.Proofs.YtmmcamkmglpgiaaGreatDoor
set_option linter.all false
set_option maxRecDepth 100000

section
variable {P : Program} {f : FR} {R : Ending → World → Prop} {n : Nat} {w0 : World} {L : List Nat} {β : List Nat} {m : SM}
/-! Into a call. -/
theorem Hs.enterM {f : FuncId} {fn : Func} {args : Array Value} {w : World} (hf : P.funcs[f]? = some fn) (hp : List HB) (xs : List SV) (H : Mem w0 L β hp w) (hc : (Nat.ble xs.length fn.ntmps && (fn.body.isSome && (startM fn xs hp).wf)) = true) (ha : args = (xs.map (SV.den β)).toArray) (h : Hs P f R fn.ntmps w0 L β (startM fn xs hp)) : Calls P f args w R := by
  simp only [Bool.and_eq_true, Nat.ble_eq] at hc
  obtain ⟨h2, h3, h4⟩ := hc
  obtain ⟨c, hb⟩ := Option.isSome_iff_exists.1 h3
  have e : codeOf fn = c := by unfold codeOf; rw [hb]
  have g := h.go w H h4
  unfold Gs startM at g
  dsimp only at g
  rw [e] at g
  refine Goes.enter hf hb _ ?_ g
  subst ha
  exact fr_start β xs fn.ntmps h2
/-- What a call that is gone into hands back. -/
def InR (P : Program) (f : FR) (R : Ending → World → Prop) (n : Nat) (w0 : World) (L β : List Nat) (m : SM) : Ending → World → Prop := fun e w' =>
  ∃ (ν : List Nat) (res : SV) (hp' : List HB), e = .returned (res.den (β ++ ν)) ∧ Mem w0 L (β ++ ν) hp' w' ∧ (res.wf hp'.length && (Nat.ble m.hp.length hp'.length && hp'.all (HB.wf hp'.length))) = true ∧ (∀ k ∈ rdOf m, ∀ h, m.hp[k]? = some h → hp'[k]? = some h) ∧ Hs P f R n w0 L (β ++ ν) (m.put (dstOf m) res hp')
theorem Hs.inl {F : FuncId} {fn : Func} (hF : P.funcs[F]? = some fn) (xs : List SV) (hc : callOf P n β m = some (F, (xs.map (SV.den β)).toArray)) (hs : (Nat.ble xs.length fn.ntmps && (fn.body.isSome && (startM fn xs m.hp).wf)) = true)
    (h : Hs P F (InR P f R n w0 L β m) fn.ntmps w0 L β (startM fn xs m.hp)) : Hs P f R n w0 L β m :=
  Hs.call hc fun w H => Hs.enterM hF m.hp xs H hs rfl h
def retS (P : Program) (fn : Func) (n : Nat) (m : SM) : Option SV := match m.r with
  | .no => match (match m.todo with | [] => m.sl.ds.isEmpty | .code .ret :: _ => m.sl.ds.isEmpty | _ => false) with
    | true => match retL P n m fn.results.toList with
      | some [v] => some v.sv
      | some vs => some (.t vs)
      | none => none
    | false => none
  | _ => none
def resOf (P : Program) (fn : Func) (n : Nat) (m : SM) : SV := (retS P fn n m).getD (.t [])
theorem retS_of {fn : Func} {v : SV} (h : retS P fn n m = some v) : retOf P fn n β m = some (v.den β) := by
  unfold retS at h
  unfold retOf
  split at h
  · rename_i hr
    rw [hr]
    dsimp only
    split at h
    · rename_i ht
      split
      rotate_left
      · rename_i h2; exact absurd (ht.symm.trans h2 : true = false) (by decide)
      split at h
      · rename_i v1 hv
        injection h with h; subst h
        rw [hv]
        cases v1 <;> rfl
      · rename_i vs hne hv
        injection h with h; subst h
        rw [hv]
        split
        · rename_i v1 h1
          injection h1 with h1
          exact absurd h1 (hne v1)
        · rename_i h2 h3 h1
          injection h1 with h1; subst h1
          rfl
        · rename_i h1; cases h1
      · cases h
    · cases h
  · cases h
/-- Back into the caller. -/
theorem Hs.retI {F : FuncId} {fn : Func} {n0 : Nat} {β0 : List Nat} {m0 : SM} (hf : P.funcs[F]? = some fn) (hr : ((retS P fn n m).isSome && ((resOf P fn n m).wf m.hp.length && Nat.ble m0.hp.length m.hp.length)) = true) (hβ : β = β0 ++ β.drop β0.length)
    (hrd : (rdOf m0).map (fun k => m.hp[k]?) = (rdOf m0).map (fun k => m0.hp[k]?)) (h : Hs P f R n0 w0 L β (m0.put (dstOf m0) (resOf P fn n m) m.hp)) : Hs P F (InR P f R n0 w0 L β0 m0) n w0 L β m := by
  simp only [Bool.and_eq_true] at hr
  obtain ⟨h1, h2, h3⟩ := hr
  obtain ⟨v, hv⟩ := Option.isSome_iff_exists.1 h1
  have e : resOf P fn n m = v := by unfold resOf; rw [hv]; rfl
  rw [e] at h h2
  refine ⟨fun w H W => ?_⟩
  refine (Hs.ret hf (retS_of hv) (fun w' H' => ?_)).go w H W
  refine ⟨β.drop β0.length, v, m.hp, by rw [← hβ], by rw [← hβ]; exact H', ?_, fun k hk b hb => ?_, by rw [← hβ]; exact h⟩
  · rw [h2, h3, SM.wf_hp W]; rfl
  · have := List.map_inj_left.1 hrd k hk
    rw [this]; exact hb
/-! Another world to count from. -/
def wrN : List Nat → List HB → List Nat
  | b :: β, h :: hp => (if h.wr then (h.blk b).toList else []) ++ wrN β hp
  | _, _ => []
theorem wrN_mem : ∀ {β : List Nat} {hp : List HB} {x : Nat}, x ∈ wrN β hp ↔ ∃ (k : Nat) (h : HB) (b : Nat), hp[k]? = some h ∧ β[k]? = some b ∧ h.wr = true ∧ h.blk b = some x
  | [], hp, x => by cases hp <;> simp [wrN]
  | b :: β, [], x => by simp [wrN]
  | b :: β, h :: hp, x => by
    have ih := wrN_mem (β := β) (hp := hp) (x := x)
    simp only [wrN, List.mem_append, ih]
    constructor
    · rintro (h1 | ⟨k, h', b', h1, h2, h3, h4⟩)
      · split at h1
        · rename_i hw
          rw [Option.mem_toList] at h1
          exact ⟨0, h, b, rfl, rfl, hw, h1⟩
        · cases h1
      · exact ⟨k + 1, h', b', by simpa using h1, by simpa using h2, h3, h4⟩
    · rintro ⟨k, h', b', h1, h2, h3, h4⟩
      cases k with
      | zero =>
        simp at h1 h2; subst h1; subst h2
        left; rw [if_pos h3, Option.mem_toList]; exact h4
      | succ k => exact .inr ⟨k, h', b', by simpa using h1, by simpa using h2, h3, h4⟩
def Back (w0 : World) (L : List Nat) (w1 : World) (L1 : List Nat) : Prop := ∀ w', Only L1 w1 w' → Only L w0 w'
theorem Back.refl : Back w0 L w0 L := fun _ h => h
theorem Back.trans {w1 w2 : World} {L1 L2 : List Nat} (h : Back w0 L w1 L1) (h' : Back w1 L1 w2 L2) : Back w0 L w2 L2 := fun w' O => h w' (h' w' O)
theorem nm_get {β : List Nat} {k b : Nat} (h : β[k]? = some b) : nm β k = b := by simp [nm, List.getD, h]
theorem Mem.back {w1 : World} {hp : List HB} (H : Mem w0 L β hp w1) : Back w0 L w1 (wrN β hp) := fun w' O =>
  H.only.trans O fun x hx => by
    obtain ⟨k, h, b, h1, h2, h3, h4⟩ := wrN_mem.1 hx
    exact H.own k h x h1 h3 (by rw [nm_get h2]; exact h4)
theorem Mem.wrN_lt {w1 : World} {hp : List HB} (H : Mem w0 L β hp w1) : ∀ x ∈ wrN β hp, x < w1.heap.size := fun x hx => by
  obtain ⟨k, h, b, h1, h2, h3, h4⟩ := wrN_mem.1 hx
  have := H.lies k h h1
  rw [nm_get h2] at this
  exact HB.lies_lt this h4
theorem Mem.rebase {w1 : World} {hp : List HB} (H : Mem w0 L β hp w1) : Mem w1 (wrN β hp) β hp w1 :=
  ⟨Only.refl _ _, H.len, H.lies, fun k h x hk hw hx => .inl (wrN_mem.2 ⟨k, h, nm β k, hk, by
    have hk2 := (List.getElem?_eq_some_iff.1 hk).1
    rw [← H.len] at hk2
    rw [nm, List.getD, List.getElem?_eq_getElem hk2]; rfl, hw, hx⟩), H.inj⟩
/-- A call whose answer is only read: all is counted from behind it. -/
theorem Hs.callE {X : Type} (v : X → Value) (Q : X → World → World → Prop) {F : FuncId} {args : Array Value} (hC : ∀ w, Mem w0 L β m.hp w → Calls P F args w fun e w' => ∃ x, e = .returned (v x) ∧ Only [] w w' ∧ Q x w w') (hc : callOf P n β m = some (F, args)) (hrd : rdOf m = [])
    (h : ∀ x w w1, Mem w0 L β m.hp w → Only [] w w1 → Q x w w1 → Back w0 L w1 (wrN β m.hp) → (∀ y ∈ wrN β m.hp, y < w.heap.size) → Hs P f R n w1 (wrN β m.hp) β (m.put (dstOf m) (.c (.v (v x))) m.hp)) : Hs P f R n w0 L β m := by
  refine ⟨fun w H W => ?_⟩
  unfold callOf at hc
  split at hc
  · rename_i o ho
    split at hc
    · rename_i hg
      split at hc
      · rename_i F' args' hp
        injection hc with hc
        injection hc with h1 h2
        subst h1; subst h2
        have hd : dstOf m = o.dst := by unfold dstOf; rw [ho]
        rw [hd] at h
        refine Gs.op ho hg ?_
        unfold Oper.wp
        rw [fr_eval, pureOut_run P _ _ hp w]
        refine Calls.mono (hC w H) ?_
        rintro e w' ⟨x, rfl, O, hQ⟩
        have H' := H.step O
        refine ⟨β, putS o.dst (.c (.v (v x))) m.sl, m.hp, fr_put n β m.sl o.dst (.c (.v (v x))), fun w2 hI => hI, (h x w w' H O hQ H'.back H.wrN_lt).go w' H'.rebase ?_⟩
        simp only [SM.wf, SM.put, Bool.and_eq_true]
        exact ⟨putS_wf (SM.wf_sl W) rfl, SM.wf_hp W⟩
      · cases hc
    · cases hc
  · cases hc
/-- From here on all is counted from the world that is. -/
theorem Hs.base (h : ∀ w1, Mem w0 L β m.hp w1 → Back w0 L w1 (wrN β m.hp) → Hs P f R n w1 (wrN β m.hp) β m) : Hs P f R n w0 L β m :=
  ⟨fun w H W => (h w H H.back).go w H.rebase W⟩
/-! Slices of our own. -/
section
variable {α : Type} {cf : α → List Value} {tS E size bytes : Nat}
theorem Mem.ownX {w : World} {hp : List HB} (H : Mem w0 L β hp w) (k : Nat) {A : Option Addr} {cap n : Nat} {l : List α} (hl : l.length = n) (hk : hp[k]? = some (.s A cap n E size (l.flatMap cf))) : OwnX cf E size w 0 (.slice A n cap) l := by
  unfold OwnX
  rw [hl]
  exact H.lies k _ hk
theorem Mem.rdX {w : World} {hp : List HB} (H : Mem w0 L β hp w) (k : Nat) {A : Option Addr} {cap n : Nat} {l : List α} (hl : l.length = n) (hk : hp[k]? = some (.s A cap n E size (l.flatMap cf))) : RdX cf w A l := by
  obtain ⟨A', cap', e, _, _, hr, _⟩ := (H.ownX k hl hk).form
  injection e with e1
  subst e1
  exact hr
theorem Mem.capS {w : World} {hp : List HB} (H : Mem w0 L β hp w) (k : Nat) {A : Option Addr} {cap n : Nat} {l : List α} (hl : l.length = n) (hk : hp[k]? = some (.s A cap n E size (l.flatMap cf))) : n ≤ cap ∧ cap ≤ maxLen := by
  obtain ⟨A', cap', e, h1, h2, _, _⟩ := (H.ownX k hl hk).form
  injection e with e1 e2 e3
  subst e3; subst hl
  exact ⟨h1, h2⟩
/-- A call that makes a slice. -/
theorem Hs.callS (v : Option Addr → Nat → Value) (l : List α) (nl : Nat) (hl : l.length = nl) {F : FuncId} {args : Array Value} (hC : ∀ w, Mem w0 L β m.hp w → Calls P F args w fun e w' => ∃ A cap, e = .returned (v A cap) ∧ Only [] w w' ∧ OwnX cf E size w' w.heap.size (.slice A nl cap) l)
    (hc : callOf P n β m = some (F, args)) (hrd : (rdOf m).all (fun k => Nat.blt k m.hp.length) = true)
    (h : ∀ A cap, nl ≤ cap → cap ≤ maxLen → Hs P f R n w0 L (β ++ [0]) (m.put (dstOf m) (.c (.v (v A cap))) (m.hp ++ [.s A cap nl E size (l.flatMap cf)]))) : Hs P f R n w0 L β m := by
  subst hl
  refine ⟨fun w H W => ?_⟩
  refine (Hs.call hc (fun w H => ?_)).go w H W
  refine Calls.mono (hC w H) ?_
  rintro e w' ⟨A, cap, rfl, O, hO⟩
  have hw := SM.wf_hp W
  obtain ⟨A1, cap1, e1, hc1, hc2, _, hA⟩ := hO.form
  injection e1 with e1 e2 e3
  subst e1; subst e3
  refine ⟨[0], .c (.v (v A cap)), m.hp ++ [.s A cap l.length E size (l.flatMap cf)], rfl, H.push (h := .s A cap l.length E size (l.flatMap cf)) (by rw [H.len]; exact hw) O (fun y hy => ?_) (OwnX.mono hO (Nat.zero_le _)), ?_, fun k hk h hh => ?_, h A cap hc1 hc2⟩
  · simp only [HB.blk, Option.map_eq_some_iff] at hy
    obtain ⟨a, hx, rfl⟩ := hy
    exact (hA a hx).1
  · simp only [SV.wf, SC.wf, Bool.true_and, Bool.and_eq_true, Nat.ble_eq, List.length_append, List.length_cons, List.length_nil, List.all_append, List.all_cons, List.all_nil, Bool.and_true]
    refine ⟨by omega, List.all_eq_true.2 fun y hy => ?_, rfl⟩
    have h1 := List.all_eq_true.1 hw y hy
    cases y with
    | no => rfl
    | s => rfl
    | q => rfl
    | r _ _ _ => rfl
    | b _ _ cs => exact List.all_eq_true.2 fun z hz => SC.wf_mono (by omega) (List.all_eq_true.1 h1 z hz)
  · rw [List.getElem?_append_left (List.getElem?_eq_some_iff.1 hh).1]; exact hh
/-- The same block, or a new one. -/
def WhereG (v v' : Value) (H : Nat) : Prop := ∀ x, v'.ownBlock = some x → v.ownBlock = some x ∨ H ≤ x
theorem Where2.g {v v' : Value} {H : Nat} (h : Where2 v v' H) : WhereG v v' H := fun x hx => by
  rcases h with h | h
  · left; rw [← h]; exact hx
  · right; rw [h] at hx; injection hx with hx; omega
theorem WhereG.same {A : Option Addr} {a b c d H : Nat} : WhereG (.slice A a b) (.slice A c d) H := fun x hx => .inl (by cases A <;> exact hx)
theorem Mem.whereG {w w' : World} {v : Value} {hp : List HB} (H : Mem w v.ownBlock.toList β hp w') (k : Nat) {A' : Option Addr} {cap' nl' : Nat} {vs : List Value} (hk : hp[k]? = some (.s A' cap' nl' E size vs)) : WhereG v (.slice A' nl' cap') w.heap.size := fun x hx => by
  rcases H.own k _ x hk rfl (by cases A' <;> exact hx) with h | h
  · exact .inl (Option.mem_toList.1 h)
  · exact .inr h
theorem Mem.ownTurn {w w' : World} {hp : List HB} (H : Mem w0 L β hp w) (k : Nat) {A A' : Option Addr} {cap cap' nl nl' : Nat} {vs : List Value} {l' : List α} (hl' : l'.length = nl') (hk : hp[k]? = some (.s A cap nl E size vs)) (O : Only (Value.ownBlock (.slice A nl cap)).toList w w') (hO : OwnX cf E size w' 0 (.slice A' nl' cap') l') (hw : WhereG (.slice A nl cap) (.slice A' nl' cap') w.heap.size) : Mem w0 L β (hp.set k (.s A' cap' nl' E size (l'.flatMap cf))) w' := by
  refine H.swap k hk O (fun x hx => ?_) rfl ?_ (fun x hx => ?_)
  · cases A with
    | none => simp [Value.ownBlock] at hx
    | some a => simp only [Value.ownBlock, Option.toList_some, List.mem_singleton] at hx; subst hx; rfl
  · have h5 := hO
    unfold OwnX at h5
    rw [hl'] at h5
    exact h5
  · have hb : Value.ownBlock (.slice A' nl' cap') = some x := by
      cases A' with
      | none => cases hx
      | some a => simp only [HB.blk, Option.map_some] at hx; exact hx
    rcases hw x hb with h4 | h4
    · left
      cases A with
      | none => cases h4
      | some a => exact h4
    · exact .inr h4
/-- A call that takes a slice of ours, and hands one back: the same block, or a new one. -/
theorem Hs.callO (k : Nat) (l l' : List α) (nl nl' : Nat) (hl : l.length = nl) (hl' : l'.length = nl') {A : Option Addr} {cap : Nat} {F : FuncId} {args : Array Value} (hk : m.hp[k]? = some (.s A cap nl E size (l.flatMap cf)))
    (hC : ∀ w, Mem w0 L β m.hp w → OwnX cf E size w 0 (.slice A nl cap) l → Calls P F args w fun e w' => ∃ A' cap', e = .returned (.slice A' nl' cap') ∧ Only (Value.ownBlock (.slice A nl cap)).toList w w' ∧ OwnX cf E size w' 0 (.slice A' nl' cap') l' ∧ WhereG (.slice A nl cap) (.slice A' nl' cap') w.heap.size)
    (hc : callOf P n β m = some (F, args)) (hrd : (rdOf m).contains k = false)
    (h : ∀ A' cap', nl' ≤ cap' → cap' ≤ maxLen → Hs P f R n w0 L β (m.put (dstOf m) (.c (.v (.slice A' nl' cap'))) (m.hp.set k (.s A' cap' nl' E size (l'.flatMap cf))))) : Hs P f R n w0 L β m := by
  refine ⟨fun w H W => ?_⟩
  refine (Hs.call hc (fun w H => ?_)).go w H W
  refine Calls.mono (hC w H (H.ownX k hl hk)) ?_
  rintro e w' ⟨A', cap', rfl, O, hO, hw⟩
  obtain ⟨A1, cap1, e1, hc1, hc2, _, _⟩ := hO.form
  injection e1 with e1 e2 e3
  subst e1; subst e3
  rw [hl'] at hc1
  refine ⟨[], .c (.v (.slice A' nl' cap')), m.hp.set k (.s A' cap' nl' E size (l'.flatMap cf)), rfl, ?_, ?_, fun i hi b hb => ?_, by rw [List.append_nil]; exact h A' cap' hc1 hc2⟩
  · rw [List.append_nil]; exact H.ownTurn k hl' hk O hO hw
  · simp only [SV.wf, SC.wf, Bool.true_and, Bool.and_eq_true, Nat.ble_eq, List.length_set]
    refine ⟨Nat.le_refl _, List.all_eq_true.2 fun x hx => ?_⟩
    rcases List.mem_or_eq_of_mem_set hx with hx | rfl
    · exact List.all_eq_true.1 (SM.wf_hp W) x hx
    · rfl
  · rw [List.getElem?_set, if_neg (fun e => by
      subst e
      simp at hrd
      exact hrd hi)]
    exact hb
theorem flatMap_set (hcl : ∀ x, (cf x).length = size) (x : α) : ∀ (l : List α) (i : Nat), i < l.length → (l.set i x).flatMap cf = splice (l.flatMap cf) (i * size) (cf x)
  | [], i, h => by simp at h
  | a :: l, 0, h => by
    simp only [List.set_cons_zero, List.flatMap_cons, Nat.zero_mul, splice, List.take_zero, List.nil_append, Nat.zero_add, hcl]
    rw [List.drop_append_of_le_length (by rw [hcl]; exact Nat.le_refl _), List.drop_eq_nil_of_le (by rw [hcl]; exact Nat.le_refl _), List.nil_append]
  | a :: l, i + 1, h => by
    have ih := flatMap_set hcl x l i (by simpa using h)
    have e : (i + 1) * size = (cf a).length + i * size := by rw [hcl, Nat.succ_mul, Nat.add_comm]
    simp only [List.set_cons_succ, List.flatMap_cons, ih, splice, e]
    have t1 : ∀ k (r : List Value), (cf a ++ r).take ((cf a).length + k) = cf a ++ r.take k := fun k r => List.take_length_add_append k
    have t2 : ∀ k (r : List Value), (cf a ++ r).drop ((cf a).length + k) = r.drop k := fun k r => List.drop_length_add_append k
    rw [t1, Nat.add_assoc, t2, List.append_assoc]
theorem ownX_set {w : World} {g cap base : Nat} {l : List α} (hcl : ∀ x, (cf x).length = size) (h : OwnX cf E size w base (.slice (some ⟨g, 0, none⟩) l.length cap) l) (i : Nat) (hi : i < l.length) (x : α) : OwnX cf E size (w.setCells g (i * size) (cf x)) base (.slice (some ⟨g, 0, none⟩) l.length cap) (l.set i x) := by
  obtain ⟨h1, ⟨h2, _⟩ | ⟨g', c', cur, e, hg, hh, hc, hm, hs, ht⟩⟩ := h
  · injection h2 with h2; cases h2
  injection e with e1 e2 e3
  injection e1 with e1
  injection e1 with e1
  subst e1; subst e3
  have hB : Blk w g E cur.toList := by
    show w.heap[g]? = _
    rw [hh]
  have hle : i * size + (cf x).length ≤ cur.toList.length := by
    rw [hcl, Array.length_toList, hs]
    calc i * size + size = (i + 1) * size := by rw [Nat.succ_mul]
      _ ≤ cap * size := Nat.mul_le_mul_right _ (by omega)
  have hB' := blk_setCells (cf x) (i * size) w cur.toList hB hle
  have hlen : (cf x).length = size := hcl x
  have hcur : cur.toList.length = cap * size := by rw [Array.length_toList, hs]
  refine ⟨by rw [flatMap_len hcl], .inr ⟨g, cap, (splice cur.toList (i * size) (cf x)).toArray, by simp, hg, hB', by simpa using hc, hm, ?_, ?_⟩⟩
  · simp only [List.size_toArray, splice, List.length_append, List.length_take, List.length_drop]
    omega
  · rw [flatMap_set hcl x l i hi, ← ht]
    simp only [List.length_set, List.toList_toArray]
    have hlt : i * size + size ≤ l.length * size := by
      calc i * size + size = (i + 1) * size := by rw [Nat.succ_mul]
        _ ≤ l.length * size := Nat.mul_le_mul_right _ (by omega)
    generalize hN : l.length * size = N at hlt
    generalize hJ : i * size = J at hlt hle
    generalize hC : cap * size = C at hcur
    generalize cur.toList = cl at hcur hle
    unfold splice
    rw [List.take_take, Nat.min_eq_left (by omega), List.take_append, List.take_of_length_le (by rw [List.length_take]; omega), List.length_take, Nat.min_eq_left (by omega)]
    congr 1
    rw [List.take_append, List.take_of_length_le (by omega)]
    congr 1
    rw [List.drop_take]
    congr 1
    omega
/-- An element of our slice is stored. -/
theorem Hs.stx (k : Nat) (hcl : ∀ x, (cf x).length = size) (hone : ∀ x, ∀ u ∈ cf x, u.oneCell' = true) (l : List α) (nl : Nat) (hl : l.length = nl) (i : Nat) (hi : i < nl) (x : α) {v : Value} (hv : v.cells = (cf x).toArray) {g cap : Nat} {E' : TypeId} (hz : szB P E' = some size)
    (hs : semOf n β m = some (unitS (Instr.storeAt E' (.pointer (some ⟨g, 0 + i * size, none⟩)) v))) (hk : m.hp[k]? = some (.s (some ⟨g, 0, none⟩) cap nl E size (l.flatMap cf))) (hrd : (rdOf m).contains k = false)
    (h : Hs P f R n w0 L β (m.put (dstOf m) (.c (.v undef)) (m.hp.set k (.s (some ⟨g, 0, none⟩) cap nl E size ((l.set i x).flatMap cf))))) : Hs P f R n w0 L β m := by
  subst hl
  rw [Nat.zero_add] at hs
  refine Hs.opU hs fun w H W => ?_
  have hO := H.ownX k rfl hk
  have hO' := ownX_set hcl hO i hi x
  obtain ⟨h1, ⟨h2, _⟩ | ⟨g', c', cur, e, hg, hh, hc, hm, hsz, ht⟩⟩ := hO
  · injection h2 with h2; cases h2
  injection e with e1 e2 e3
  injection e1 with e1
  injection e1 with e1
  subst e1; subst e3
  have hB : Blk w g E cur.toList := by
    show w.heap[g]? = _
    rw [hh]
  have hle : i * size + (cf x).length ≤ cur.toList.length := by
    rw [hcl, Array.length_toList, hsz]
    calc i * size + size = (i + 1) * size := by rw [Nat.succ_mul]
      _ ≤ cap * size := Nat.mul_le_mul_right _ (by omega)
  have hst : (storeVar E' ⟨g, i * size, none⟩ v).run P w = .ok () (w.setCells g (i * size) (cf x)) := by
    have hc := run_storeCells_cells (P := P) g (i * size) (cf x) 0 w (fun j hj => by
        simpa using (blk_there hB (i * size) (cf x).length hle j (by simpa using hj)).1) (fun j hj => by
        simpa using (blk_there hB (i * size) (cf x).length hle j (by simpa using hj)).2) (hone x)
    simp only [Nat.add_zero] at hc
    unfold storeVar
    simp only [Sem.run_bind, run_sizeB hz w, Result.andThen_ok, hv]
    rw [if_neg (by simp [hcl])]
    simp [hc]
  refine ⟨_, w.setCells g (i * size) (cf x), by simp only [Instr.storeAt, Instr.sureAddr, Sem.run_bind, Sem.run_pure, Result.andThen_ok, hst], H.ownTurn k (l' := l.set i x) (by simp) hk (only_setCells _ _ _) (by simpa using hO') WhereG.same, ?_, fun j hj b hb => ?_, h⟩
  · simp only [Bool.and_eq_true, Nat.ble_eq, List.length_set]
    refine ⟨Nat.le_refl _, List.all_eq_true.2 fun x hx => ?_⟩
    rcases List.mem_or_eq_of_mem_set hx with hx | rfl
    · exact List.all_eq_true.1 (SM.wf_hp W) x hx
    · rfl
  · rw [List.getElem?_set, if_neg (fun e => by
      subst e
      simp at hrd
      exact hrd hj)]
    exact hb
end
end
end Go.Proofs.YtmmcamkmglpgiaaGreatDoor
