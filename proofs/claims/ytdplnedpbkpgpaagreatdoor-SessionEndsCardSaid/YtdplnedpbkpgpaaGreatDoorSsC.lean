/- The machine: an operation of two numbers taken by hand, a shift; over any program; no condition · The machine: a call that turns a block and a slice of ours at once; over any program; no condition · The machine: facts that stay, calls that turn a block of ours and answer some thing, calls that are deferred; over any program; no condition · The machine: calls that turn a block of ours and answer some thing; calls that are deferred; over any program; no condition · The machine: append(nil, make(T, q)...), a row of ours cut down; over any program; no condition · The machine: an operation that turns the world, whatever it is; bytealg.MakeNoZero; over any program; no condition · The machine: a part of any slice that is read; over any program; no condition · The machine: a call that makes things that stay, one by one; over any program; no condition · The machine: one cell of a row of ours is stored; over any program; no condition · The machine: a call that makes a row of ours, and things that stay; over any program; no condition · The machine: two pointers into one block compared; over any program; no condition · The machine: calls in a region that draws, that make what stays; over any program; no condition · Bytes in rows of cells: read, kept; over any program; no condition. -/
import Derived.Test.YtdplnedpbkpgpaaGreatDoorSsB
import Derived.Lib.MakeNoZero
import Derived.Laws.Externs
namespace Go.Proofs.YtdplnedpbkpgpaaGreatDoor
set_option linter.all false
set_option maxRecDepth 100000

section
variable {P : Program} {f : FuncId} {R : Ending → World → Prop} {n : Nat} {w0 : World} {L : List Nat} {β : List Nat} {m : SM}
theorem eqGuard_int {op : BinOp} {T : TypeId} {x y : Operand} {k k' : IntKind} {a b : Int} (w : World) : (eqGuard op T x y (.int k a) (.int k' b)).run P w = .ok () w := by
  cases op <;> rfl
/-- An operation of two numbers. -/
theorem Hs.bin {op : BinOp} {T : TypeId} {k k' : IntKind} {a b : Int} (v : Value) (hc : sameOf n β m = some (op, T, .int k a, .int k' b)) (hr : ∀ w, (binOp op T (.int k a) (.int k' b)).run P w = .ok v w) (h : Hs P f R n w0 L β (m.put (dstOf m) (.c (.v v)) m.hp)) : Hs P f R n w0 L β m := by
  refine ⟨fun w H W => ?_⟩
  unfold sameOf at hc
  split at hc
  · rename_i o hcur
    split at hc
    · rename_i hg
      split at hc
      · rename_i op' T' x y z hop
        simp only [Option.some.injEq, Prod.mk.injEq] at hc
        obtain ⟨rfl, rfl, hx, hy⟩ := hc
        have hd : dstOf m = o.dst := by unfold dstOf; rw [hcur]
        rw [hd] at h
        refine Gs.val (v := .c (.v v)) hcur hg ?_ (h.go w H ?_)
        · have hr := hr w
          simp only [execOp, hop, hx, hy, Sem.run_bind, eqGuard_int w, Result.andThen_ok, hr, Sem.run_pure]
          rfl
        · simp only [SM.wf, SM.put, Bool.and_eq_true]
          exact ⟨putS_wf (SM.wf_sl W) rfl, SM.wf_hp W⟩
      · cases hc
    · cases hc
  · cases hc
/-- A shift to the left, by no number below 0. -/
theorem run_shl {T : TypeId} {k yk : IntKind} {a b : Int} (hb : 0 ≤ b) (w : World) : (binOp .shl T (.int k a) (.int yk b)).run P w = .ok (.int k (k.wrap (a * 2 ^ (min b.toNat k.bits)))) w := by
  show (Op.shift .shl k a yk b).run P w = _
  unfold Op.shift
  rw [if_neg (by omega)]
  rfl
/-- An operation that does not ask the memory, worked out as it stands. -/
def pureV (P : Program) (n : Nat) (β : List Nat) (m : SM) : Option Value := match semOf n β m with
  | some s => match pureOut P s with
    | some (.value v) => some v
    | _ => none
  | none => none
theorem Hs.pure (v : SV) (hs : pureV P n β m = some (v.den β)) (hv : v.wf m.hp.length = true) (k : Hs P f R n w0 L β (m.put (dstOf m) v m.hp)) : Hs P f R n w0 L β m := by
  unfold pureV at hs
  split at hs
  · rename_i s hm
    split at hs
    · rename_i x hx
      injection hs with hs
      subst hs
      exact Hs.opN v hm hv (fun w _ => pureOut_run P _ _ hx w) k
    · cases hs
  · cases hs
end
end Go.Proofs.YtdplnedpbkpgpaaGreatDoor

namespace Go.Proofs.YtdplnedpbkpgpaaGreatDoor
set_option linter.all false
set_option maxRecDepth 100000

theorem Mem.swap2 {w0 w w' : World} {L L' β : List Nat} {hp : List HB} (H : Mem w0 L β hp w) (k j : Nat) (hne : k ≠ j) {T T' : TypeId} {cs cs' : List SC} {h0 h1 : HB} (hk : hp[k]? = some (.b true T cs)) (hj : hp[j]? = some h0) (O : Only L' w w') (hL' : ∀ x ∈ L', x = nm β k ∨ h0.blk (nm β j) = some x) (hw0 : h0.wr = true)
    (hB : Blk w' (nm β k) T' (dens β cs')) (hl : h1.lies w' β (nm β j)) (hb : ∀ x, h1.blk (nm β j) = some x → h0.blk (nm β j) = some x ∨ w.heap.size ≤ x) : Mem w0 L β ((hp.set k (.b true T' cs')).set j h1) w' := by
  have hkl := (List.getElem?_eq_some_iff.1 hk).1
  have hjl := (List.getElem?_eq_some_iff.1 hj).1
  have hsz := O.size
  have hsz0 := H.only.size
  have hown : ∀ x ∈ L', x ∈ L ∨ w0.heap.size ≤ x := fun x hx => by
    rcases hL' x hx with rfl | h
    · exact H.own k _ _ hk rfl rfl
    · exact H.own j h0 x hj hw0 h
  have hget : ∀ (i : Nat) (x : HB), ((hp.set k (.b true T' cs')).set j h1)[i]? = some x → (i = j ∧ x = h1) ∨ (i = k ∧ i ≠ j ∧ x = .b true T' cs') ∨ (i ≠ j ∧ i ≠ k ∧ hp[i]? = some x) := fun i x hi => by
    rw [List.getElem?_set] at hi
    split at hi
    · rename_i e
      subst e
      simp only [List.length_set, hjl, if_true, Option.some.injEq] at hi
      exact .inl ⟨rfl, hi.symm⟩
    · rename_i e
      rw [List.getElem?_set] at hi
      split at hi
      · rename_i e2
        subst e2
        simp only [hkl, if_true, Option.some.injEq] at hi
        exact .inr (.inl ⟨rfl, fun h => e h.symm, hi.symm⟩)
      · rename_i e2
        exact .inr (.inr ⟨fun h => e h.symm, fun h => e2 h.symm, hi⟩)
  have key : ∀ (i : Nat) (y : HB) (x : Nat), ((hp.set k (.b true T' cs')).set j h1)[i]? = some y → y.blk (nm β i) = some x → (∃ h : HB, hp[i]? = some h ∧ h.blk (nm β i) = some x) ∨ (i = j ∧ w.heap.size ≤ x) := fun i y x hi hx => by
    rcases hget i y hi with ⟨rfl, rfl⟩ | ⟨rfl, _, rfl⟩ | ⟨_, _, h⟩
    · rcases hb x hx with h2 | h2
      · exact .inl ⟨h0, hj, h2⟩
      · exact .inr ⟨rfl, h2⟩
    · exact .inl ⟨_, hk, hx⟩
    · exact .inl ⟨y, h, hx⟩
  refine ⟨H.only.trans O hown, by simp [H.len], fun i x hi => ?_, fun i x y hi hwr hy => ?_, fun i i' hi hi' x ei ei' li li' => ?_⟩
  · rcases hget i x hi with ⟨rfl, rfl⟩ | ⟨rfl, _, rfl⟩ | ⟨n1, n2, h⟩
    · exact hl
    · exact hB
    · refine HB.lies_only (H.lies i x h) O fun y hy hm => ?_
      rcases hL' y hm with e | e
      · exact n2 (H.inj i k x _ y h hk hy (by rw [e]; rfl))
      · exact n1 (H.inj i j x h0 y h hj hy e)
  · rcases hget i x hi with ⟨rfl, rfl⟩ | ⟨rfl, _, rfl⟩ | ⟨n1, n2, h⟩
    · rcases hb y hy with h2 | h2
      · exact H.own i h0 y hj hw0 h2
      · exact .inr (by omega)
    · exact H.own i _ y hk rfl hy
    · exact H.own i x y h hwr hy
  · rcases key i hi x ei li with ⟨a, ha, la⟩ | ⟨e, h2⟩ <;> rcases key i' hi' x ei' li' with ⟨c, hc, lc⟩ | ⟨e', h2'⟩
    · exact H.inj i i' a c x ha hc la lc
    · have := HB.lies_lt (H.lies i a ha) la
      omega
    · have := HB.lies_lt (H.lies i' c hc) lc
      omega
    · rw [e, e']

theorem wrap_nextJ {i n : Nat} (hn : n ≤ maxLen) (h : i < n := by assumption) : Value.int .i64 (IntKind.i64.wrap ((i : Int) + 1)) = (SV.c (.v (.int .i64 (i + 1 : Nat)))).den [] := by
  show Value.int .i64 _ = Value.int .i64 _
  rw [IntWalk.i64_in _ (by unfold maxLen at hn; omega)]
  rfl
/-- One block that is only read. -/
theorem Mem.rdB1 (w : World) (g : Nat) {T : Nat} {cs : List SC} (hg : Blk w g T (dens [g] cs)) : Mem w [] [g] [.b false T cs] w :=
  Mem.start _ _ _ _ rfl (fun k h hk => by
    cases k with
    | zero => simp at hk; subst hk; exact hg
    | succ k => simp at hk) (fun k h x hk hw _ => by
    cases k with
    | zero => simp at hk; subst hk; cases hw
    | succ k => simp at hk) (fun i j hi hj x ei ej _ _ => by
    cases i with
    | succ i => simp at ei
    | zero =>
      cases j with
      | succ j => simp at ej
      | zero => rfl)


section
variable {P : Program} {f : FuncId} {R : Ending → World → Prop} {n : Nat} {w0 : World} {L : List Nat} {β : List Nat} {m : SM}
variable {α : Type} {cf : α → List Value} {E size : Nat}
/-- A call that turns the block k and the slice j. -/
theorem Hs.callBS (k j : Nat) {T : TypeId} {cs0 : List SC} (v : Value) (cs : Option Addr → Nat → List SC) (l l' : List α) (nl nl' : Nat) (hl : l.length = nl) (hl' : l'.length = nl') {A : Option Addr} {cap : Nat} {F : FuncId} {args : Array Value} (hne : k ≠ j) (hk : m.hp[k]? = some (.b true T cs0)) (hj : m.hp[j]? = some (.s A cap nl E size (l.flatMap cf)))
    (hC : ∀ w, Mem w0 L β m.hp w → Blk w (nm β k) T (dens β cs0) → OwnX cf E size w 0 (.slice A nl cap) l → (∀ x, Value.ownBlock (.slice A nl cap) = some x → x ≠ nm β k) → Calls P F args w fun e w' => ∃ A' cap', e = .returned v ∧ Only (nm β k :: (Value.ownBlock (.slice A nl cap)).toList) w w' ∧ Blk w' (nm β k) T (dens β (cs A' cap')) ∧ OwnX cf E size w' 0 (.slice A' nl' cap') l' ∧ WhereG (.slice A nl cap) (.slice A' nl' cap') w.heap.size)
    (hc : callOf P n β m = some (F, args)) (hrd : ((rdOf m).contains k || (rdOf m).contains j) = false) (hwf : ∀ A' cap', (cs A' cap').all (SC.wf m.hp.length) = true)
    (h : ∀ A' cap', nl' ≤ cap' → cap' ≤ maxLen → Hs P f R n w0 L β (m.put (dstOf m) (.c (.v v)) ((m.hp.set k (.b true T (cs A' cap'))).set j (.s A' cap' nl' E size (l'.flatMap cf))))) : Hs P f R n w0 L β m := by
  subst hl
  refine ⟨fun w H W => ?_⟩
  refine (Hs.call hc (fun w H => ?_)).go w H W
  have hblk : ∀ x, Value.ownBlock (.slice A l.length cap) = some x → HB.blk (nm β j) (.s A cap l.length E size (l.flatMap cf)) = some x := fun x hx => by
    cases A with
    | none => cases hx
    | some a => simpa [Value.ownBlock, HB.blk] using hx
  refine Calls.mono (hC w H (H.at k hk) (H.ownX j rfl hj) (fun x hx e => hne (H.inj k j _ _ x hk hj (by rw [e]; rfl) (hblk x hx)))) ?_
  rintro e w' ⟨A', cap', rfl, O, hB, hO, hw⟩
  have h5 := hO
  unfold OwnX at h5
  rw [hl'] at h5
  obtain ⟨A1, cap1, e1, hc1, hc2, _, _⟩ := hO.form
  injection e1 with e1 e2 e3
  subst e1; subst e3
  rw [hl'] at hc1
  have hd := H.swap2 k j hne (T' := T) (cs' := cs A' cap') (h1 := .s A' cap' nl' E size (l'.flatMap cf)) hk hj O (fun x hx => by
    rcases List.mem_cons.1 hx with h | h
    · exact .inl h
    · exact .inr (hblk x (Option.mem_toList.1 h))) rfl hB h5 (fun x hx => by
    have hb : Value.ownBlock (.slice A' nl' cap') = some x := by
      cases A' with
      | none => cases hx
      | some a => simp only [HB.blk, Option.map_some] at hx; exact hx
    rcases hw x hb with h4 | h4
    · exact .inl (hblk x h4)
    · exact .inr h4)
  refine ⟨[], .c (.v v), (m.hp.set k (.b true T (cs A' cap'))).set j (.s A' cap' nl' E size (l'.flatMap cf)), rfl, by rw [List.append_nil]; exact hd, ?_, fun i hi b hb => ?_, by rw [List.append_nil]; exact h A' cap' hc1 hc2⟩
  · simp only [SV.wf, SC.wf, Bool.true_and, Bool.and_eq_true, Nat.ble_eq, List.length_set]
    refine ⟨Nat.le_refl _, List.all_eq_true.2 fun x hx => ?_⟩
    rcases List.mem_or_eq_of_mem_set hx with hx | rfl
    · rcases List.mem_or_eq_of_mem_set hx with hx | rfl
      · exact List.all_eq_true.1 (SM.wf_hp W) x hx
      · exact hwf A' cap'
    · rfl
  · simp only [Bool.or_eq_false_iff] at hrd
    have hi1 : i ≠ j := fun e => by subst e; have := hrd.2; simp at this; exact this hi
    have hi2 : i ≠ k := fun e => by subst e; have := hrd.1; simp at this; exact this hi
    rw [List.getElem?_set, if_neg (fun e => hi1 e.symm), List.getElem?_set, if_neg (fun e => hi2 e.symm)]
    exact hb
end
end Go.Proofs.YtdplnedpbkpgpaaGreatDoor

namespace Go.Proofs.YtdplnedpbkpgpaaGreatDoor
set_option linter.all false

/-- As long as none but L turns, Q holds. -/
def Keeps (w : World) (L : List Nat) (Q : World → Prop) : Prop := ∀ w', Only L w w' → Q w'
/-- Whatever stays with all of L stays with them anew. -/
def Turns (w w' : World) (g : Nat) (Q Q' : World → Prop) : Prop := ∀ L : List Nat, (∀ x ∈ L, x < w.heap.size) → g ∈ L → Keeps w L Q → Keeps w' L Q'
section
variable {w w0 w1 w2 w' : World} {L L1 L' β : List Nat} {hp : List HB} {g : Nat} {Q Q' Q'' F : World → Prop}
theorem Keeps.at (h : Keeps w L Q) : Q w := h w (Only.refl L w)
theorem Keeps.now (h : Keeps w0 L Q) (H : Mem w0 L β hp w) : Q w := h w H.only
theorem Keeps.back (h : Keeps w0 L Q) (B : Back w0 L w1 L1) : Keeps w1 L1 Q := fun w' O => h w' (B w' O)
theorem Keeps.step (h : Keeps w0 L Q) (H : Mem w0 L β hp w) : Keeps w (wrN β hp) Q := h.back H.back
theorem Keeps.mono (h : Keeps w L Q) (hs : ∀ x ∈ L', x ∈ L) : Keeps w L' Q := fun w' O => h w' (O.mono hs)
theorem Keeps.imp (h : Keeps w L Q) (f : ∀ w, Q w → Q' w) : Keeps w L Q' := fun w' O => f w' (h w' O)
theorem Keeps.go (h : Keeps w L Q) (O : Only L w w') : Keeps w' L Q := fun w2 O2 => h w2 (O.trans O2 (fun x hx => .inl hx))
/-- What none of what lies in w can touch. -/
theorem Keeps.goN (h : Keeps w L Q) (O : Only L' w w') (h1 : ∀ x ∈ L', x ∈ L ∨ w.heap.size ≤ x) (h2 : ∀ x ∈ L1, x ∈ L ∨ w.heap.size ≤ x) : Keeps w' L1 Q := fun w2 O2 => by
  have O1 : Only L w w' := (Only.refl L w).trans O h1
  exact h w2 (O1.trans O2 h2)
theorem Keeps.and (h : Keeps w L Q) (h' : Keeps w L Q') : Keeps w L (fun w => Q w ∧ Q' w) := fun w' O => ⟨h w' O, h' w' O⟩
theorem Turns.same (O : Only [g] w w') : Turns w w' g Q Q := fun L _ hg h => h.go (O.mono (by simpa using hg))
theorem Turns.trans (O : Only [g] w w1) (h : Turns w w1 g Q Q') (h' : Turns w1 w2 g Q' Q'') : Turns w w2 g Q Q'' := fun L hL hg hk => h' L (fun x hx => Nat.lt_of_lt_of_le (hL x hx) O.size) hg (h L hL hg hk)
theorem Turns.imp (h : Turns w w' g Q Q') (f : ∀ w, Q' w → Q'' w) : Turns w w' g Q Q'' := fun L hL hg hk => (h L hL hg hk).imp f
theorem Turns.pre (h : Turns w w' g Q Q') (f : ∀ w, Q'' w → Q w) : Turns w w' g Q'' Q' := fun L hL hg hk => h L hL hg (hk.imp f)
theorem Turns.andR (O : Only [g] w w') (h : Turns w w' g Q Q') : Turns w w' g (fun w => Q w ∧ F w) (fun w => Q' w ∧ F w) := fun L hL hg hk =>
  (h L hL hg (hk.imp fun _ h => h.1)).and ((hk.imp fun _ h => h.2).go (O.mono (by simpa using hg)))
/-- A call that turns g, at a later world of it; what is known of the rest. -/
structure Cx (w : World) (g : Nat) (D0 : World → Prop) (w1 : World) (L1 : List Nat) (D1 : World → Prop) : Prop where
  back : Back w [g] w1 L1
  mem : ∀ x ∈ L1, x = g ∨ w.heap.size ≤ x
  has : g ∈ L1
  size : w.heap.size ≤ w1.heap.size
  old : g < w.heap.size
  k0 : Keeps w [g] D0
  keep : ∀ L : List Nat, (∀ x ∈ L, x < w.heap.size) → g ∈ L → Keeps w L D0 → Keeps w1 (L ++ L1) D1
variable {D0 D1 D2 : World → Prop}
theorem Cx.start (hk : Keeps w [g] D0) (hg : g < w.heap.size) : Cx w g D0 w [g] D0 :=
  ⟨Back.refl, by simp, by simp, Nat.le_refl _, hg, hk, fun L _ hg hk => hk.mono fun x hx => by
    rcases List.mem_append.1 hx with h | h
    · exact h
    · rw [List.mem_singleton.1 h]; exact hg⟩
theorem Cx.keeps (C : Cx w g D0 w1 L1 D1) : Keeps w1 L1 D1 := (C.keep [g] (by simp [C.old]) (by simp) C.k0).mono fun x hx => by simp [hx]
theorem Cx.now (C : Cx w g D0 w1 L1 D1) (H : Mem w1 L1 β hp w') : D1 w' := C.keeps.now H
theorem Cx.keepsAt (C : Cx w g D0 w1 L1 D1) (H : Mem w1 L1 β hp w') : Keeps w' [g] D1 := C.keeps.goN H.only (fun x hx => .inl hx) (fun x hx => .inl (by rw [List.mem_singleton.1 hx]; exact C.has))
theorem Cx.imp (C : Cx w g D0 w1 L1 D1) (f : ∀ w, D1 w → D2 w) : Cx w g D0 w1 L1 D2 := ⟨C.back, C.mem, C.has, C.size, C.old, C.k0, fun L hL hg hk => (C.keep L hL hg hk).imp f⟩
theorem Cx.only (C : Cx w g D0 w1 L1 D1) (H : Mem w1 L1 β hp w') : Only [g] w w' := C.back w' H.only
theorem Cx.turns (C : Cx w g D0 w1 L1 D1) (H : Mem w1 L1 β hp w') : Turns w w' g D0 D1 := fun L hL hg hk =>
  (C.keep L hL hg hk).goN H.only (fun x hx => .inl (by simp [hx])) (fun x hx => .inl (by simp [hx]))
/-- A block of ours, but for g, was made in the call. -/
theorem Cx.fresh (C : Cx w g D0 w1 L1 D1) (H : Mem w1 L1 β hp w') {i k : Nat} {hi hk : HB} {x : Nat} (ei : hp[i]? = some hi) (ek : hp[k]? = some hk) (hne : i ≠ k) (hg : hi.blk (nm β i) = some g) (hw : hk.wr = true) (hx : hk.blk (nm β k) = some x) : w.heap.size ≤ x ∧ x ≠ g := by
  have hxg : x ≠ g := fun e => by subst e; exact hne (H.inj i k _ _ x ei ek hg hx)
  refine ⟨?_, hxg⟩
  rcases H.own k hk x ek hw hx with h | h
  · rcases C.mem x h with h | h
    · exact absurd h hxg
    · exact h
  · have := C.size; omega
theorem rdX_keeps {α : Type} {cf : α → List Value} {A : Option Addr} {l : List α} (h : RdX cf w' A l) (hA : ∀ a, A = some a → a.block ∉ L) : Keeps w' L (fun w => RdX cf w A l) := fun w2 O => h.far O fun a ha _ => hA a ha
section
variable {α : Type} {cf : α → List Value} {E size : Nat}
/-- A slice of ours stays. -/
theorem Cx.turnsS (C : Cx w g D0 w1 L1 D1) (H : Mem w1 L1 β hp w') (i k : Nat) {hi : HB} {A : Option Addr} {cap n : Nat} {l : List α} (hl : l.length = n) (ei : hp[i]? = some hi) (ek : hp[k]? = some (.s A cap n E size (l.flatMap cf))) (hne : i ≠ k) (hg : hi.blk (nm β i) = some g) : Turns w w' g D0 (fun w => D1 w ∧ (RdX cf w A l ∧ n ≤ cap ∧ cap ≤ maxLen)) := fun L hL hg' hk => by
  refine (C.turns H L hL hg' hk).and (Keeps.and ?_ (fun _ _ => H.capS k hl ek))
  refine rdX_keeps (H.rdX k hl ek) fun a ha hx => ?_
  have h1 := (C.fresh H (x := a.block) ei ek hne hg rfl (by subst ha; rfl)).1
  have h2 := hL _ hx
  omega
theorem Cx.turnsB (C : Cx w g D0 w1 L1 D1) (H : Mem w1 L1 β hp w') (i k : Nat) {hi : HB} {T : TypeId} {cs : List SC} {l : List α} (ei : hp[i]? = some hi) (ek : hp[k]? = some (.b true T cs)) (hne : i ≠ k) (hg : hi.blk (nm β i) = some g) (hd : dens β cs = l.flatMap cf) : Turns w w' g D0 (fun w => D1 w ∧ RdX cf w (some ⟨nm β k, 0, none⟩) l) := fun L hL hg' hk => by
  refine (C.turns H L hL hg' hk).and ?_
  refine rdX_keeps (H.rdB k ek hd) fun a ha hx => ?_
  injection ha with ha
  subst ha
  have h1 := (C.fresh H (x := nm β k) ei ek hne hg rfl rfl).1
  have h2 := hL _ hx
  simp at h2
  omega
/-- A slice of ours, for a callee that turns g. -/
theorem Mem.keepS (H : Mem w0 L β hp w) (i k : Nat) {hi : HB} {A : Option Addr} {cap n : Nat} {l : List α} (hl : l.length = n) (ei : hp[i]? = some hi) (ek : hp[k]? = some (.s A cap n E size (l.flatMap cf))) (hne : i ≠ k) (hg : hi.blk (nm β i) = some g) : Keeps w [g] (fun w => RdX cf w A l) :=
  rdX_keeps (H.rdX k hl ek) fun a ha hx => hne (H.inj i k _ _ g ei ek hg (by subst ha; exact congrArg some (List.mem_singleton.1 hx)))
theorem Mem.keepB (H : Mem w0 L β hp w) (i k : Nat) {hi : HB} {wr : Bool} {T : TypeId} {cs : List SC} {l : List α} (ei : hp[i]? = some hi) (ek : hp[k]? = some (.b wr T cs)) (hne : i ≠ k) (hg : hi.blk (nm β i) = some g) (hd : dens β cs = l.flatMap cf) : Keeps w [g] (fun w => RdX cf w (some ⟨nm β k, 0, none⟩) l) :=
  rdX_keeps (H.rdB k ek hd) fun a ha hx => hne (H.inj i k _ _ g ei ek hg (by injection ha with ha; subst ha; exact congrArg some (List.mem_singleton.1 hx)))
end
theorem Cx.move (C : Cx w g D0 w1 L1 D1) (H : Mem w1 L1 β hp w2) (O : Only [g] w2 w') (T : Turns w2 w' g D1 D2) (hgm : g ∈ wrN β hp) : Cx w g D0 w' (wrN β hp) D2 := by
  have hO := H.only
  have key : ∀ x ∈ wrN β hp, x ∈ L1 ∨ w1.heap.size ≤ x := fun x hx => by
    obtain ⟨k, h, b, h1, h2, h3, h4⟩ := wrN_mem.1 hx
    exact H.own k h x h1 h3 (by rw [nm_get h2]; exact h4)
  refine ⟨fun w3 O3 => C.back w3 ?_, fun x hx => ?_, hgm, Nat.le_trans C.size (Nat.le_trans hO.size O.size), C.old, C.k0, fun L hL hg hk => ?_⟩
  · exact (hO.trans (O.mono (L' := L1) (by simpa using C.has)) (fun x hx => .inl hx)).trans O3 key
  · rcases key x hx with h | h
    · exact C.mem x h
    · exact .inr (by have := C.size; omega)
  · have h1 := C.keep L hL hg hk
    have h2 : Keeps w2 (L ++ wrN β hp) D1 := h1.goN hO (fun x hx => .inl (by simp [hx])) (fun x hx => by
      rcases List.mem_append.1 hx with h | h
      · exact .inl (by simp [h])
      · rcases key x h with h | h
        · exact .inl (by simp [h])
        · exact .inr h)
    refine T _ (fun x hx => ?_) (by simp [hg]) h2
    rcases List.mem_append.1 hx with h | h
    · have := hL x h; have := C.size; have := hO.size; omega
    · exact H.wrN_lt x h
end
end Go.Proofs.YtdplnedpbkpgpaaGreatDoor

namespace Go.Proofs.YtdplnedpbkpgpaaGreatDoor
set_option linter.all false

theorem wrN_set {h h' : HB} (hw : h'.wr = h.wr) (hb : ∀ b, h'.blk b = h.blk b) : ∀ {β : List Nat} {hp : List HB} {k : Nat}, hp[k]? = some h → wrN β (hp.set k h') = wrN β hp
  | [], hp, k, _ => by cases hp <;> simp [wrN] <;> (cases k <;> rfl)
  | b :: β, [], k, hk => by simp at hk
  | b :: β, x :: hp, 0, hk => by simp at hk; subst hk; simp [wrN, hw, hb]
  | b :: β, x :: hp, k + 1, hk => by
    have ih := wrN_set hw hb (β := β) (hp := hp) (k := k) (by simpa using hk)
    simp only [List.set_cons_succ, wrN, ih]
section
variable {P : Program} {f : FuncId} {R : Ending → World → Prop} {n : Nat} {w0 : World} {L : List Nat} {β : List Nat} {m : SM}
/-- A call that turns a block of ours, and leaves the rest as it says. -/
theorem Hs.callD {X : Type} (k : Nat) {g : Nat} {T : TypeId} {cs0 : List SC} (v : X → Value) (cs : X → List SC) {w00 : World} {D0 A F : World → Prop} (A' : X → World → Prop) {Fn : FuncId} {args : Array Value}
    (C : Cx w00 g D0 w0 L (fun w => A w ∧ F w)) (hβ : β[k]? = some g) (hk : m.hp[k]? = some (.b true T cs0))
    (hC : ∀ w, Mem w0 L β m.hp w → Blk w g T (dens β cs0) → Keeps w [g] A → Calls P Fn args w fun e w' => ∃ x, e = .returned (v x) ∧ Only [g] w w' ∧ Blk w' g T (dens β (cs x)) ∧ Turns w w' g A (A' x))
    (hc : callOf P n β m = some (Fn, args)) (hrd : rdOf m = []) (hwf : ∀ x, (cs x).all (SC.wf m.hp.length) = true)
    (h : ∀ x w1 L1, Cx w00 g D0 w1 L1 (fun w => A' x w ∧ F w) → Hs P f R n w1 L1 β (m.put (dstOf m) (.c (.v (v x))) (m.hp.set k (.b true T (cs x))))) : Hs P f R n w0 L β m := by
  have hnm := nm_get hβ
  refine ⟨fun w H W => ?_⟩
  unfold callOf at hc
  split at hc
  · rename_i o ho
    split at hc
    · rename_i hg
      split at hc
      · rename_i F' args' hp
        injection hc with hc
        injection hc with h1 h2
        subst h1; subst h2
        have hd : dstOf m = o.dst := by unfold dstOf; rw [ho]
        rw [hd] at h
        refine Gs.op ho hg ?_
        unfold Oper.wp
        rw [fr_eval, pureOut_run P _ _ hp w]
        refine Calls.mono (hC w H (by have := H.at k hk; rw [hnm] at this; exact this) ((C.keepsAt H).imp fun _ h => h.1)) ?_
        rintro e w' ⟨x, rfl, O, hB, hT⟩
        have H' := H.put hk (by rw [hnm]; exact O) (by rw [hnm]; exact hB : Blk w' (nm β k) T (dens β (cs x)))
        have hwr : wrN β (m.hp.set k (.b true T (cs x))) = wrN β m.hp := wrN_set (h := .b true T cs0) (h' := .b true T (cs x)) rfl (fun _ => rfl) hk
        have hgm : g ∈ wrN β m.hp := wrN_mem.2 ⟨k, _, g, hk, hβ, rfl, rfl⟩
        have C' := C.move H O (Turns.andR O hT) hgm
        rw [← hwr] at C'
        refine ⟨β, putS o.dst (.c (.v (v x))) m.sl, m.hp.set k (.b true T (cs x)), fr_put n β m.sl o.dst (.c (.v (v x))), fun w2 hI => ?_, (h x w' _ C').go w' H'.rebase ?_⟩
        · rw [hrd]; intro i hi; cases hi
        · simp only [SM.wf, SM.put, Bool.and_eq_true]
          refine ⟨?_, ?_⟩
          · rw [List.length_set]; exact putS_wf (SM.wf_sl W) rfl
          · rw [List.length_set]
            refine List.all_eq_true.2 fun y hy => ?_
            rcases List.mem_or_eq_of_mem_set hy with hy | rfl
            · exact List.all_eq_true.1 (SM.wf_hp W) y hy
            · exact hwf x
      · cases hc
    · cases hc
  · cases hc
/-- A call that makes some thing that stays. -/
theorem Hs.callN {X : Type} {g : Nat} (v : X → Value) {w00 : World} {D0 F : World → Prop} (A' : X → World → Prop) {Fn : FuncId} {args : Array Value} (k : Nat) {T : TypeId} {cs0 : List SC}
    (C : Cx w00 g D0 w0 L F) (hβ : β[k]? = some g) (hk : m.hp[k]? = some (.b true T cs0))
    (hC : ∀ w, Mem w0 L β m.hp w → Calls P Fn args w fun e w' => ∃ x, e = .returned (v x) ∧ Only [] w w' ∧ ∀ L, (∀ y ∈ L, y < w.heap.size) → Keeps w' L (A' x))
    (hc : callOf P n β m = some (Fn, args)) (hrd : rdOf m = [])
    (h : ∀ x w1 L1, Cx w00 g D0 w1 L1 (fun w => A' x w ∧ F w) → Hs P f R n w1 L1 β (m.put (dstOf m) (.c (.v (v x))) m.hp)) : Hs P f R n w0 L β m := by
  refine Hs.callE v (fun x w w' => ∀ L, (∀ y ∈ L, y < w.heap.size) → Keeps w' L (A' x)) hC hc hrd fun x w w1 H O q B hL => ?_
  have hgm : g ∈ wrN β m.hp := wrN_mem.2 ⟨k, _, g, hk, hβ, rfl, rfl⟩
  have O1 : Only [g] w w1 := O.mono (by simp)
  exact h x w1 _ (C.move H O1 (fun L hL hg hk => (q L hL).and (hk.go (O1.mono (by simpa using hg)))) hgm)
/-- A call is deferred. -/
theorem Hs.dfr {s : Sem Next} (d : Deferred) (hs : semOf n β m = some s) (h : ∀ w, s.run P w = .ok (.defer d) w) (k : Hs P f R n w0 L β ⟨nextR m, m.todo, putS (dstOf m) (.c (.v undef)) (.dfr (d :: m.sl.ds) m.sl), m.hp⟩) : Hs P f R n w0 L β m := by
  obtain ⟨o, ho, hg, he, hd⟩ := semOf_spec hs
  rw [hd] at k
  refine ⟨fun w H W => ?_⟩
  refine Gs.op ho hg ?_
  unfold Oper.wp
  rw [fr_eval, he, h w]
  refine ⟨β, putS o.dst (.c (.v undef)) (.dfr (d :: m.sl.ds) m.sl), m.hp, ?_, fun w2 hI => hI, k.go w H ?_⟩
  · rw [← fr_put]; rfl
  · simp only [SM.wf, Bool.and_eq_true]
    exact ⟨putS_wf (SM.wf_sl W) rfl, SM.wf_hp W⟩
/-- The end, where one call was deferred. -/
theorem Hs.retD {fn : Func} {t : Tmp} {v : Value} {d : Deferred} {Fd : FuncId} {args : Array Value} {fv : Fn} {cap : Array Value} (hf : P.funcs[f]? = some fn) (hr : fn.results = #[.tmp t]) (hm : (match m.r, m.todo with | .no, .code .ret :: _ => true | _, _ => false) = true) (hv : (evS n m.sl (.tmp t)).den β = v) (hd : m.sl.ds = [d]) (ht : d.target = .fn fv cap) (hi : ∀ w, (invoke d.target d.args).run P w = .ok (.enter Fd args) w)
    (hC : ∀ w, Mem w0 L β m.hp w → CallsD P Fd args .returning w fun e u' w' => u' = .returning ∧ (∃ x, e = .returned x) ∧ R (.returned v) w') : Hs P f R n w0 L β m := by
  refine ⟨fun w H W => ?_⟩
  obtain ⟨r, todo, sl, hp⟩ := m
  dsimp only at hm
  cases r with
  | no =>
    cases todo with
    | nil => cases hm
    | cons it k =>
      cases it with
      | code c =>
        cases c with
        | ret =>
          show Goes P f R (.code .ret :: k) (fr n β sl) w
          refine Goes.retD (v := v) hf hd (fun w2 => ?_) ht (hi w) (hC w H)
          have he : (fr n β sl).tmps.getD t undef = v := (fr_eval1 n β sl (.tmp t)).trans hv
          have hrs : (results fn (fr n β sl).tmps).run P w2 = .ok ((fr n β sl).tmps.getD t undef) w2 := by simp [results, hr]
          rw [hrs, he]
        | _ => cases hm
      | _ => cases hm
  | _ => cases hm
/-- A call begins; it may be one that was deferred. -/
theorem Hs.enterD {fn : Func} {args : Array Value} {w : World} {u : FrameMode} (hf : P.funcs[f]? = some fn) (L β : List Nat) (hp : List HB) (xs : List SV) (H : Mem w L β hp w) (hc : (Nat.ble xs.length fn.ntmps && (fn.body.isSome && (startM fn xs hp).wf)) = true) (ha : args = (xs.map (SV.den β)).toArray) (h : Hs P f R fn.ntmps w L β (startM fn xs hp)) : CallsD P f args u w fun e u' w' => u' = u ∧ R e w' := by
  simp only [Bool.and_eq_true, Nat.ble_eq] at hc
  obtain ⟨h2, h3, h4⟩ := hc
  obtain ⟨c, hb⟩ := Option.isSome_iff_exists.1 h3
  have e : codeOf fn = c := by unfold codeOf; rw [hb]
  have g := h.go w H h4
  unfold Gs startM at g
  dsimp only at g
  rw [e] at g
  refine Goes.enterD hf hb _ ?_ g
  rw [fr_start β xs _ h2, ← ha]
end
end Go.Proofs.YtdplnedpbkpgpaaGreatDoor

namespace Go.Proofs.YtdplnedpbkpgpaaGreatDoor
set_option linter.all false

section
variable {P : Program} {f : FuncId} {R : Ending → World → Prop} {n : Nat} {w0 : World} {L : List Nat} {β : List Nat} {m : SM}
variable {tS E size bytes : Nat}
/-- append(nil, make(T, q)...): a new row. -/
theorem Hs.growN (ht : ElemT P tS E size bytes) {tn ty : Nat} (htn : P.underlying tn = some (.int .i64)) {q : Nat} (hq : 0 < q) (hm : q ≤ maxLen) (hb : q * bytes ≤ 140737488355328)
    (hs : semOf n β m = some (valS (Builtin.append_ #[tS, tn] ty #[.slice none 0 0, .int .i64 q]))) (hrd : (rdOf m).all (fun k => Nat.blt k m.hp.length) = true)
    (h : ∀ g2 cap2 zs, zs.length = q * size → q ≤ cap2 → cap2 ≤ maxLen → Hs P f R n w0 L (β ++ [0]) (m.put (dstOf m) (.c (.v (.slice (some ⟨g2, 0, none⟩) q cap2))) (m.hp ++ [.s (some ⟨g2, 0, none⟩) cap2 q E size zs]))) : Hs P f R n w0 L β m := by
  refine Hs.opW hs fun w H W => ?_
  obtain ⟨hu, ⟨i0, z, hi, hz, hsz, hby, hzs⟩, hpos⟩ := ht
  subst hsz
  subst hby
  have hf : (Builtin.firstCells i0.size 0 (.slice none 0 0)).run P w.drew = .ok ([] : List Value).toArray w.drew := by
    simp [Builtin.firstCells]
  have hrun := Lib.run_append_grow_zeros (P := P) w tS tn ty E i0 z .i64 .i64 hu htn hi hz none 0 0 [] hf q hq hpos (by omega) (by unfold maxLen at hm; omega) (by omega) (growslice_fits (by omega) (by rw [Nat.zero_add]; exact hb))
  simp only [Nat.zero_add] at hrun
  have hge := grownCap_ge w q 0 E
  have hcm : grownCap w q 0 E ≤ maxLen := grownCap_le_maxLen w q 0 E hm
  have hw := SM.wf_hp W
  have hzl : (Builtin.zeroCells z.cells q).toList.length = q * i0.size := by rw [zero_len, hzs]
  refine ⟨[0], .c (.v (.slice (some ⟨w.heap.size, 0, none⟩) q (grownCap w q 0 E))), m.hp ++ [.s (some ⟨w.heap.size, 0, none⟩) (grownCap w q 0 E) q E i0.size (Builtin.zeroCells z.cells q).toList], _, hrun, ?_, ?_, fun k hk b hh => ?_, h w.heap.size _ _ hzl hge hcm⟩
  · refine H.push (h := .s _ _ _ _ _ _) (by rw [H.len]; exact hw) ?_ (fun y hy => ?_) ?_
    · exact ⟨rfl, rfl, rfl, by simp, fun k hk _ => heap_alloc_old _ _ hk⟩
    · simp only [HB.blk, Option.map_some, Option.some.injEq] at hy
      subst hy
      exact Nat.le_refl _
    · refine ⟨hzl, .inr ⟨w.heap.size, _, _, rfl, Nat.zero_le _, heap_alloc_new w.drew _, hge, hcm, ?_, ?_⟩⟩
      · simp only [Array.size_append, List.size_toArray, List.length_nil, size_zeroCells, hzs, Nat.zero_add, ← Nat.add_mul]
        congr 1
        omega
      · simp only [Array.toList_append, List.nil_append]
        exact List.take_left' hzl
  · simp only [SV.wf, SC.wf, Bool.true_and, Bool.and_eq_true, Nat.ble_eq, List.length_append, List.length_cons, List.length_nil, List.all_append, List.all_cons, List.all_nil, Bool.and_true]
    refine ⟨by omega, List.all_eq_true.2 fun y hy => ?_, rfl⟩
    have h1 := List.all_eq_true.1 hw y hy
    cases y with
    | b _ _ cs => exact List.all_eq_true.2 fun u hu => SC.wf_mono (by omega) (List.all_eq_true.1 h1 u hu)
    | _ => rfl
  · have := List.all_eq_true.1 hrd k hk
    rw [List.getElem?_append_left (blt_spec.1 this)]
    exact hh
/-- A row of ours is read as a shorter one. -/
theorem Hs.cutS (k : Nat) {g cap nl i : Nat} {vs : List Value} (hk : m.hp[k]? = some (.s (some ⟨g, 0, none⟩) cap nl E size vs)) (hi : i ≤ nl) (hrd : (match m.r with | .no => true | .lst .. => true | .lstN .. => true | _ => false) = true) (h : Hs P f R n w0 L β ⟨m.r, m.todo, m.sl, m.hp.set k (.s (some ⟨g, 0, none⟩) cap i E size (vs.take (i * size)))⟩) : Hs P f R n w0 L β m := by
  have hno : m.r = m.r := rfl
  refine ⟨fun w H W => ?_⟩
  have hl := H.lies k _ hk
  obtain ⟨h1, h2⟩ := hl
  have key : w.ownsRow 0 E size (.slice (some ⟨g, 0, none⟩) i cap) i (vs.take (i * size)) := by
    have hle : i * size ≤ nl * size := Nat.mul_le_mul_right _ hi
    refine ⟨by rw [List.length_take, h1]; exact Nat.min_eq_left hle, ?_⟩
    rcases h2 with ⟨e, _⟩ | ⟨g', c', cur, e, h3, h4, h5, h6, h7, h8⟩
    · cases e
    · injection e with e1 e2 e3
      injection e1 with e1
      injection e1 with e1
      subst e1; subst e3
      refine .inr ⟨g, cap, cur, rfl, h3, h4, by omega, h6, h7, ?_⟩
      rw [← h8, List.take_take, Nat.min_eq_left hle]
  have H' := H.reS k hk (Only.refl [g] w) key
  have g2 := h.go w H' (by
    simp only [SM.wf, Bool.and_eq_true] at W ⊢
    rw [List.length_set]
    refine ⟨W.1, List.all_eq_true.2 fun y hy => ?_⟩
    rcases List.mem_or_eq_of_mem_set hy with hy | rfl
    · exact List.all_eq_true.1 W.2 y hy
    · rfl)
  obtain ⟨r, todo, sl, hp⟩ := m
  cases r with
  | no => exact g2
  | lst => exact g2
  | lstN => exact g2
  | _ => cases hrd
end
end Go.Proofs.YtdplnedpbkpgpaaGreatDoor

namespace Go.Proofs.YtdplnedpbkpgpaaGreatDoor
set_option linter.all false

section
variable {P : Program} {f : FuncId} {R : Ending → World → Prop} {n : Nat} {w0 : World} {L : List Nat} {β : List Nat} {m : SM}
/-- An operation that yields a value and turns the world. -/
theorem Hs.opX {s : Sem Next} (hs : semOf n β m = some s) (h : ∀ w, Mem w0 L β m.hp w → m.wf = true → ∃ (ν : List Nat) (res : SV) (hp' : List HB) (w' : World), s.run P w = .ok (.value (res.den (β ++ ν))) w' ∧ Mem w0 L (β ++ ν) hp' w' ∧ (res.wf hp'.length && (Nat.ble m.hp.length hp'.length && hp'.all (HB.wf hp'.length))) = true ∧ (∀ k ∈ rdOf m, ∀ h, m.hp[k]? = some h → hp'[k]? = some h) ∧ Hs P f R n w0 L (β ++ ν) (m.put (dstOf m) res hp')) : Hs P f R n w0 L β m := by
  obtain ⟨o, ho, hg, he, hd⟩ := semOf_spec hs
  refine ⟨fun w H W => ?_⟩
  rw [hd] at h
  obtain ⟨ν, res, hp', w', h1, H', hw, hrd, hG⟩ := h w H W
  refine Gs.op ho hg ?_
  unfold Oper.wp
  rw [fr_eval, he, h1]
  simp only [Oper.upon_value]
  simp only [Bool.and_eq_true, Nat.ble_eq] at hw
  refine ⟨β ++ ν, putS o.dst res m.sl, hp', ?_, fun w2 hI => IR.app H.len (SM.wf_hp W) hrd hI, hG.go w' H' ?_⟩
  · rw [← fr_app n ν (by rw [H.len]; exact SM.wf_sl W), ← fr_put]
  · simp only [SM.wf, SM.put, Bool.and_eq_true]
    exact ⟨putS_wf (Slots.wf_mono hw.2.1 (SM.wf_sl W)) hw.1, hw.2.2⟩
/-- bytealg.MakeNoZero(q): a new row of whatever bytes. -/
theorem Hs.mkNZ {F : FuncId} {fn : Func} {t E q : Nat} {ps : Array TypeId} (hf : P.funcs[F]? = some fn) (hname : (fn.name == "runtime.NumGoroutine") = false) (hb : fn.body.isNone = true) (hn : Extern.findNext fn = none) (he : Extern.find fn = some (Extern.BytealgMakeNoZero.makeNoZero ps #[t])) (ht : P.underlying t = some (.slice E)) (hq : q ≤ 1000000)
    (hs : semOf n β m = some (callFunc F #[.int .i64 q])) (hrd : (rdOf m).all (fun k => Nat.blt k m.hp.length) = true)
    (h : ∀ g cap vs, vs.length = q * 1 → q ≤ cap → cap ≤ maxLen → Hs P f R n w0 L (β ++ [0]) (m.put (dstOf m) (.c (.v (.slice (some ⟨g, 0, none⟩) q cap))) (m.hp ++ [.s (some ⟨g, 0, none⟩) cap q E 1 vs]))) : Hs P f R n w0 L β m := by
  refine Hs.opX hs fun w H W => ?_
  obtain ⟨cs, hrun, hc1, hc2⟩ := Lib.run_makeNoZero (P := P) w ps t E ht q (by omega)
  have hcm := hc2 (by unfold maxLen; omega)
  have hw := SM.wf_hp W
  have hzl : (cs.toList.take q).length = q * 1 := by rw [List.length_take, Array.length_toList]; omega
  refine ⟨[0], .c (.v (.slice (some ⟨w.heap.size, 0, none⟩) q cs.size)), m.hp ++ [.s (some ⟨w.heap.size, 0, none⟩) cs.size q E 1 (cs.toList.take q)], (w.drew.drew.alloc (.cells cs E)), ?_, ?_, ?_, fun k hk b hh => ?_, h w.heap.size _ _ hzl hc1 hcm⟩
  · rw [run_callFunc_extern hf hname hb hn he, hrun]
    rfl
  · refine H.push (h := .s _ _ _ _ _ _) (by rw [H.len]; exact hw) ?_ (fun y hy => ?_) ?_
    · exact ⟨rfl, rfl, rfl, by simp, fun k hk _ => heap_alloc_old _ _ hk⟩
    · simp only [HB.blk, Option.map_some, Option.some.injEq] at hy
      subst hy
      exact Nat.le_refl _
    · exact ⟨hzl, .inr ⟨w.heap.size, _, cs, rfl, Nat.zero_le _, heap_alloc_new w.drew.drew _, hc1, hcm, by omega, by rw [Nat.mul_one]⟩⟩
  · simp only [SV.wf, SC.wf, Bool.true_and, Bool.and_eq_true, Nat.ble_eq, List.length_append, List.length_cons, List.length_nil, List.all_append, List.all_cons, List.all_nil, Bool.and_true]
    refine ⟨by omega, List.all_eq_true.2 fun y hy => ?_, rfl⟩
    have h1 := List.all_eq_true.1 hw y hy
    cases y with
    | b _ _ cs => exact List.all_eq_true.2 fun u hu => SC.wf_mono (by omega) (List.all_eq_true.1 h1 u hu)
    | _ => rfl
  · have := List.all_eq_true.1 hrd k hk
    rw [List.getElem?_append_left (blt_spec.1 this)]
    exact hh
end
end Go.Proofs.YtdplnedpbkpgpaaGreatDoor

namespace Go.Proofs.YtdplnedpbkpgpaaGreatDoor
set_option linter.all false

def loA (size : Nat) (A : Option Addr) (i cap : Nat) : Option Addr := if cap = i then A else A.map (·.add (i * size))
def hiA (size : Nat) (A : Option Addr) (cap : Nat) : Option Addr := if cap = 0 then A else A.map (·.add (0 * size))
section
variable {P : Program} {tS E size bytes : Nat} {α : Type} {cf : α → List Value}
theorem run_loA (ht : ElemT P tS E size bytes) {A : Option Addr} {n cap i : Nat} (hn : i ≤ n) (w : World) : (Instr.sliceAt tS (.slice A n cap) (some (.int .i64 i)) none none).run P w = .ok (.slice (loA size A i cap) (n - i) (cap - i)) w := run_sloA ht hn w
theorem run_hiA (ht : ElemT P tS E size bytes) {A : Option Addr} {n cap i : Nat} (hi : i ≤ cap) (w : World) : (Instr.sliceAt tS (.slice A n cap) none (some (.int .i64 i)) none).run P w = .ok (.slice (hiA size A cap) i cap) w := by
  have hu : P.underlying tS = some (.slice (P.elem tS)) := by rw [ht.elem]; exact ht.ht
  rw [run_sliceAt_slice (h := hu), run_slice_h (ht := hu) (h0 := by omega) (h2 := by omega), ht.elem, ht.sizeOf]
  simp only [Result.andThen_ok, sliced, Int.toNat_natCast]
  rfl
theorem rdX_lo (hcl : ∀ x, (cf x).length = size) {w : World} {A : Option Addr} {l : List α} {i cap : Nat} (h : RdX cf w A l) (hi : i ≤ l.length) (hc : l.length ≤ cap) : RdX cf w (loA size A i cap) (l.drop i) := fun h0 => by
  rw [List.length_drop] at h0
  obtain ⟨b, off, e, hb, hcell⟩ := h (by omega)
  subst e
  refine ⟨b, off + i * size, ?_, hb, fun j u hj => ?_⟩
  · unfold loA
    rw [if_neg (by omega)]
    simp [Addr.add_lit]
  · rw [← flatMap_drop hcl l i hi, List.getElem?_drop] at hj
    have := hcell _ u hj
    rw [Nat.add_assoc]; exact this
theorem rdX_hi (hcl : ∀ x, (cf x).length = size) {w : World} {A : Option Addr} {l : List α} {i cap : Nat} (h : RdX cf w A l) (hi : i ≤ l.length) : RdX cf w (hiA size A cap) (l.take i) := fun h0 => by
  rw [List.length_take] at h0
  obtain ⟨b, off, e, hb, hcell⟩ := h (by omega)
  subst e
  refine ⟨b, off, ?_, hb, fun j u hj => ?_⟩
  · unfold hiA
    split
    · rfl
    · simp [Addr.add_lit]
  · rw [← flatMap_take hcl l i hi, List.getElem?_take] at hj
    split at hj
    · exact hcell _ u hj
    · cases hj
variable {f : FuncId} {R : Ending → World → Prop} {n : Nat} {w0 : World} {L : List Nat} {β : List Nat} {m : SM}
/-- s[i:], whatever s is. -/
theorem Hs.lo (ht : ElemT P tS E size bytes) {A : Option Addr} {len cap i : Nat} (hn : i ≤ len) (hs : semOf n β m = some (valS (Instr.sliceAt tS (.slice A len cap) (some (.int .i64 i)) none none))) (h : Hs P f R n w0 L β (m.put (dstOf m) (.c (.v (.slice (loA size A i cap) (len - i) (cap - i)))) m.hp)) : Hs P f R n w0 L β m :=
  Hs.opV (.c (.v (.slice (loA size A i cap) (len - i) (cap - i)))) hs rfl (fun w _ => run_loA ht hn w) h
/-- s[:i], whatever s is. -/
theorem Hs.hi (ht : ElemT P tS E size bytes) {A : Option Addr} {len cap i : Nat} (hi : i ≤ cap) (hs : semOf n β m = some (valS (Instr.sliceAt tS (.slice A len cap) none (some (.int .i64 i)) none))) (h : Hs P f R n w0 L β (m.put (dstOf m) (.c (.v (.slice (hiA size A cap) i cap))) m.hp)) : Hs P f R n w0 L β m :=
  Hs.opV (.c (.v (.slice (hiA size A cap) i cap))) hs rfl (fun w _ => run_hiA ht hi w) h
theorem Hs.takeLo (j : Nat) (ht : ElemT P tS E size bytes) {rd : List Nat} {A : Option Addr} {len cap i : Nat} (hn : i ≤ len) (hs : semAt j n β m = some (valS (Instr.sliceAt tS (.slice A len cap) (some (.int .i64 i)) none none), rd)) (h : Hs P f R n w0 L β (takeM j (.c (.v (.slice (loA size A i cap) (len - i) (cap - i)))) m)) : Hs P f R n w0 L β m :=
  Hs.takeV j (.c (.v (.slice (loA size A i cap) (len - i) (cap - i)))) hs rfl (fun w _ => run_loA ht hn w) h
theorem Hs.takeHi (j : Nat) (ht : ElemT P tS E size bytes) {rd : List Nat} {A : Option Addr} {len cap i : Nat} (hi : i ≤ cap) (hs : semAt j n β m = some (valS (Instr.sliceAt tS (.slice A len cap) none (some (.int .i64 i)) none), rd)) (h : Hs P f R n w0 L β (takeM j (.c (.v (.slice (hiA size A cap) i cap))) m)) : Hs P f R n w0 L β m :=
  Hs.takeV j (.c (.v (.slice (hiA size A cap) i cap))) hs rfl (fun w _ => run_hiA ht hi w) h
end
end Go.Proofs.YtdplnedpbkpgpaaGreatDoor

namespace Go.Proofs.YtdplnedpbkpgpaaGreatDoor
set_option linter.all false

/-- What a call has made stays. -/
def NewX {X : Type} (w : World) (v : X → Value) (Q : X → World → Prop) : Ending → World → Prop := fun e w' => ∃ x, e = .returned (v x) ∧ Only [] w w' ∧ ∀ L : List Nat, (∀ y ∈ L, y < w.heap.size) → Keeps w' L (Q x)
section
variable {w w0 w1 w2 w' : World} {L L1 L' β : List Nat} {hp : List HB} {Q D1 D2 : World → Prop}
/-- A later world of a call that writes nothing old; what is known of what it has made. -/
structure Nx (w w1 : World) (L1 : List Nat) (D1 : World → Prop) : Prop where
  back : Back w [] w1 L1
  mem : ∀ x ∈ L1, w.heap.size ≤ x
  size : w.heap.size ≤ w1.heap.size
  keep : ∀ L : List Nat, (∀ x ∈ L, x < w.heap.size) → Keeps w1 (L ++ L1) D1
theorem Nx.start (w : World) : Nx w w [] (fun _ => True) := ⟨Back.refl, by simp, Nat.le_refl _, fun _ _ _ _ => trivial⟩
theorem Nx.imp (C : Nx w w1 L1 D1) (f : ∀ w, D1 w → D2 w) : Nx w w1 L1 D2 := ⟨C.back, C.mem, C.size, fun L hL => (C.keep L hL).imp f⟩
theorem Nx.only (C : Nx w w1 L1 D1) (H : Mem w1 L1 β hp w') : Only [] w w' := C.back w' H.only
theorem Nx.keeps (C : Nx w w1 L1 D1) : Keeps w1 L1 D1 := (C.keep [] (by simp)).mono fun x hx => by simp [hx]
theorem Nx.now (C : Nx w w1 L1 D1) (H : Mem w1 L1 β hp w') : D1 w' := C.keeps.now H
theorem Nx.key (H : Mem w1 L1 β hp w2) : ∀ x ∈ wrN β hp, x ∈ L1 ∨ w1.heap.size ≤ x := fun x hx => by
  obtain ⟨k, h, b, h1, h2, h3, h4⟩ := wrN_mem.1 hx
  exact H.own k h x h1 h3 (by rw [nm_get h2]; exact h4)
/-- It stays, whatever of the blocks ks of the call's own turns. -/
theorem Nx.fin (C : Nx w w1 L1 D1) (H : Mem w1 L1 β hp w') : ∀ L : List Nat, (∀ x ∈ L, x < w.heap.size ∨ x ∈ wrN β hp) → Keeps w' L D1 := fun L hL => by
  have h1 := C.keep (L.filter fun x => decide (x < w.heap.size)) (fun x hx => by simpa using (List.mem_filter.1 hx).2)
  refine h1.goN H.only (fun x hx => .inl (by simp [hx])) (fun x hx => ?_)
  rcases hL x hx with h | h
  · exact .inl (by simp [hx, h])
  · rcases Nx.key H x h with h | h
    · exact .inl (by simp [h])
    · exact .inr h
theorem Nx.move (C : Nx w w1 L1 D1) (H : Mem w1 L1 β hp w2) (O : Only [] w2 w') (q : ∀ L : List Nat, (∀ y ∈ L, y < w2.heap.size) → Keeps w' L Q) : Nx w w' (wrN β hp) (fun w => Q w ∧ D1 w) := by
  have hO := H.only
  have key := Nx.key H
  refine ⟨fun w3 O3 => C.back w3 ?_, fun x hx => ?_, Nat.le_trans C.size (Nat.le_trans hO.size O.size), fun L hL => ?_⟩
  · exact (hO.trans (O.mono (L' := L1) (by simp)) (fun x hx => .inl hx)).trans O3 key
  · rcases key x hx with h | h
    · exact C.mem x h
    · have := C.size; omega
  · refine (q _ fun x hx => ?_).and ?_
    · rcases List.mem_append.1 hx with h | h
      · have := hL x h; have := C.size; have := hO.size; omega
      · exact H.wrN_lt x h
    · have h2 : Keeps w2 (L ++ wrN β hp) D1 := (C.keep L hL).goN hO (fun x hx => .inl (by simp [hx])) (fun x hx => by
        rcases List.mem_append.1 hx with h | h
        · exact .inl (by simp [h])
        · rcases key x h with h | h
          · exact .inl (by simp [h])
          · exact .inr h)
      exact h2.go (O.mono (by simp))
/-- A slice of ours, at the end. -/
theorem Nx.ownX {α : Type} {cf : α → List Value} {E size : Nat} (C : Nx w w1 L1 D1) (H : Mem w1 L1 β hp w') (k : Nat) {A : Option Addr} {cap nl : Nat} {l : List α} (hl : l.length = nl) (hk : hp[k]? = some (.s A cap nl E size (l.flatMap cf))) : OwnX cf E size w' w.heap.size (.slice A nl cap) l := by
  have h5 := H.ownX k hl hk
  obtain ⟨A1, cap1, e1, hc1, hc2, hr, hA⟩ := h5.form
  injection e1 with e1 e2 e3
  subst e1; subst e3
  subst hl
  unfold OwnX at h5 ⊢
  obtain ⟨h1, h2 | ⟨g, c, cur, e, _, hg, h4⟩⟩ := h5
  · exact ⟨h1, .inl h2⟩
  · refine ⟨h1, .inr ⟨g, c, cur, e, ?_, hg, h4⟩⟩
    injection e with e1
    subst e1
    rcases H.own k _ g hk rfl rfl with h | h
    · exact C.mem g h
    · have := C.size; omega
end
section
variable {P : Program} {f : FuncId} {R : Ending → World → Prop} {n : Nat} {w0 w00 : World} {L : List Nat} {β : List Nat} {m : SM} {D1 : World → Prop}
/-- A call that makes what stays, counted on. -/
theorem Hs.callM {X : Type} {v : X → Value} {Q : X → World → Prop} {F : FuncId} {args : Array Value} (C : Nx w00 w0 L D1) (hC : ∀ w, Mem w0 L β m.hp w → Calls P F args w (NewX w v Q)) (hc : callOf P n β m = some (F, args)) (hrd : rdOf m = [])
    (h : ∀ x w1 L1, Nx w00 w1 L1 (fun w => Q x w ∧ D1 w) → Hs P f R n w1 L1 β (m.put (dstOf m) (.c (.v (v x))) m.hp)) : Hs P f R n w0 L β m :=
  Hs.callE v (fun x w w' => ∀ L : List Nat, (∀ y ∈ L, y < w.heap.size) → Keeps w' L (Q x)) hC hc hrd fun x w w1 H O q B hL => h x w1 _ (C.move H O q)
end
end Go.Proofs.YtdplnedpbkpgpaaGreatDoor

namespace Go.Proofs.YtdplnedpbkpgpaaGreatDoor
set_option linter.all false

theorem splice_len1 {α : Type} (vs : List α) (j : Nat) (v : α) (h : j < vs.length) : (splice vs j [v]).length = vs.length := by
  simp only [splice, List.length_append, List.length_take, List.length_drop, List.length_cons, List.length_nil]
  omega
theorem splice_take1 {α : Type} (cur : List α) (q j : Nat) (v : α) (h : j < q) (hq : q ≤ cur.length) : (splice cur j [v]).take q = splice (cur.take q) j [v] := by
  unfold splice
  simp only [List.length_cons, List.length_nil, Nat.zero_add]
  rw [List.take_append, List.take_take, List.length_take, Nat.min_eq_right (by omega : j ≤ q), Nat.min_eq_left (by omega : j ≤ cur.length), List.take_take, Nat.min_eq_left (by omega : j ≤ q)]
  congr 1
  rw [List.singleton_append, List.singleton_append]
  obtain ⟨d, hd⟩ : ∃ d, q - j = d + 1 := ⟨q - j - 1, by omega⟩
  rw [hd, List.take_succ_cons]
  congr 1
  rw [List.drop_take]
  congr 1
  omega
section
variable {P : Program} {f : FuncId} {R : Ending → World → Prop} {n : Nat} {w0 : World} {L : List Nat} {β : List Nat} {m : SM} {E size : Nat}
/-- One cell of a row of ours. -/
theorem Hs.stc (k : Nat) {g cap nl : Nat} {vs : List Value} (hk : m.hp[k]? = some (.s (some ⟨g, 0, none⟩) cap nl E size vs)) (j : Nat) (hj : j < vs.length) {v : Value} (hv : v.cells = #[v]) (hone : v.oneCell' = true) {E' : TypeId} (hz : szB P E' = some 1)
    (hs : semOf n β m = some (unitS (Instr.storeAt E' (.pointer (some ⟨g, j, none⟩)) v))) (hrd : (rdOf m).contains k = false)
    (h : Hs P f R n w0 L β (m.put (dstOf m) (.c (.v undef)) (m.hp.set k (.s (some ⟨g, 0, none⟩) cap nl E size (splice vs j [v]))))) : Hs P f R n w0 L β m := by
  refine Hs.opU hs fun w H W => ?_
  have hl : w.ownsRow 0 E size (.slice (some ⟨g, 0, none⟩) nl cap) nl vs := H.lies k _ hk
  obtain ⟨h1, ⟨h2, _⟩ | ⟨g', c', cur, e, hg, hh, hc, hm, hsz, ht⟩⟩ := hl
  · injection h2 with h2; cases h2
  injection e with e1 e2 e3
  injection e1 with e1
  injection e1 with e1
  subst e1; subst e3
  have hcl : cur.toList.length = cap * size := by rw [Array.length_toList, hsz]
  have hnc : nl * size ≤ cap * size := Nat.mul_le_mul_right _ hc
  have hB : Blk w g E cur.toList := by
    show w.heap[g]? = _
    rw [hh]
  have hle : j + [v].length ≤ cur.toList.length := by simp only [List.length_cons, List.length_nil]; omega
  have hst : (storeVar E' ⟨g, j, none⟩ v).run P w = .ok () (w.setCells g j [v]) := by
    have hc := run_storeCells_cells (P := P) g j [v] 0 w (fun i hi => by
        simpa using (blk_there hB j [v].length hle i (by simpa using hi)).1) (fun i hi => by
        simpa using (blk_there hB j [v].length hle i (by simpa using hi)).2) (by simpa using hone)
    simp only [Nat.add_zero] at hc
    unfold storeVar
    simp only [Sem.run_bind, run_sizeB hz w, Result.andThen_ok, hv]
    rw [if_neg (by simp)]
    simp [hc]
  have hB' := blk_setCells [v] j w cur.toList hB hle
  have hO : (w.setCells g j [v]).ownsRow 0 E size (.slice (some ⟨g, 0, none⟩) nl cap) nl (splice vs j [v]) := by
    refine ⟨by rw [splice_len1 _ _ _ hj, h1], .inr ⟨g, cap, (splice cur.toList j [v]).toArray, rfl, Nat.zero_le _, hB', hc, hm, ?_, ?_⟩⟩
    · rw [List.size_toArray, splice_len1 _ _ _ (by omega), hcl]
    · rw [splice_take1 _ _ _ _ (by omega) (by omega), ht]
  refine ⟨_, w.setCells g j [v], by simp only [Instr.storeAt, Instr.sureAddr, Sem.run_bind, Sem.run_pure, Result.andThen_ok, hst], H.reS k hk (only_setCells _ _ _) hO, ?_, fun i hi b hb => ?_, h⟩
  · simp only [Bool.and_eq_true, Nat.ble_eq, List.length_set]
    refine ⟨Nat.le_refl _, List.all_eq_true.2 fun x hx => ?_⟩
    rcases List.mem_or_eq_of_mem_set hx with hx | rfl
    · exact List.all_eq_true.1 (SM.wf_hp W) x hx
    · rfl
  · rw [List.getElem?_set, if_neg (fun e => by subst e; simp at hrd; exact hrd hi)]
    exact hb
end
end Go.Proofs.YtdplnedpbkpgpaaGreatDoor

namespace Go.Proofs.YtdplnedpbkpgpaaGreatDoor
set_option linter.all false

section
variable {P : Program} {f : FuncId} {R : Ending → World → Prop} {n : Nat} {w0 w00 : World} {L : List Nat} {β : List Nat} {m : SM} {D1 : World → Prop} {α : Type} {cf : α → List Value} {E size : Nat}
/-- A call that makes a row of ours, and things that stay. -/
theorem Hs.callSM {X : Type} (v : Option Addr → Nat → Value) (l : X → List α) (nl : Nat) (Q : X → World → Prop) {F : FuncId} {args : Array Value} (C : Nx w00 w0 L D1)
    (hC : ∀ w, Mem w0 L β m.hp w → Calls P F args w fun e w' => ∃ A' c' x, e = .returned (v A' c') ∧ Only [] w w' ∧ (l x).length = nl ∧ OwnX cf E size w' w.heap.size (.slice A' nl c') (l x) ∧ ∀ L : List Nat, (∀ y ∈ L, y < w.heap.size ∨ some y = A'.map (·.block)) → Keeps w' L (Q x))
    (hc : callOf P n β m = some (F, args)) (hrd : rdOf m = [])
    (h : ∀ A' c' x w1 L1, (l x).length = nl → Nx w00 w1 L1 (fun w => Q x w ∧ D1 w) → Hs P f R n w1 L1 (β ++ [0]) (m.put (dstOf m) (.c (.v (v A' c'))) (m.hp ++ [.s A' c' nl E size ((l x).flatMap cf)]))) : Hs P f R n w0 L β m := by
  refine ⟨fun w H W => ?_⟩
  unfold callOf at hc
  split at hc
  · rename_i o ho
    split at hc
    · rename_i hg
      split at hc
      · rename_i F' args' hp
        injection hc with hc
        injection hc with h1 h2
        subst h1; subst h2
        have hd : dstOf m = o.dst := by unfold dstOf; rw [ho]
        rw [hd] at h
        refine Gs.op ho hg ?_
        unfold Oper.wp
        rw [fr_eval, pureOut_run P _ _ hp w]
        refine Calls.mono (hC w H) ?_
        rintro e w' ⟨A', c', x, rfl, O, hl, hO, q⟩
        have hw := SM.wf_hp W
        have hOl := hO
        obtain ⟨A1, cap1, e1, hc1, hc2, _, hA⟩ := hO.form
        injection e1 with e1 e2 e3
        subst e1; subst e3
        have H' : Mem w0 L (β ++ [0]) (m.hp ++ [.s A' c' nl E size ((l x).flatMap cf)]) w' := by
          refine H.push (h := .s A' c' nl E size ((l x).flatMap cf)) (by rw [H.len]; exact hw) O (fun y hy => ?_) ?_
          · simp only [HB.blk, Option.map_eq_some_iff] at hy
            obtain ⟨a, ha, rfl⟩ := hy
            exact (hA a ha).1
          · have h5 := OwnX.mono hOl (Nat.zero_le _)
            unfold OwnX at h5
            rw [hl] at h5
            exact h5
        have key := Nx.key H'
        have N : Nx w00 w' (wrN (β ++ [0]) (m.hp ++ [.s A' c' nl E size ((l x).flatMap cf)])) (fun w => Q x w ∧ D1 w) := by
          refine ⟨fun w3 O3 => C.back w3 (H'.back w3 O3), fun y hy => ?_, Nat.le_trans C.size H'.only.size, fun L' hL' => ?_⟩
          · rcases key y hy with h | h
            · exact C.mem y h
            · have := C.size; omega
          · refine (q _ fun y hy => ?_).and ?_
            · rcases List.mem_append.1 hy with h | h
              · have := hL' y h; have := C.size; have := H.only.size; exact .inl (by omega)
              · obtain ⟨k, hb, b, h1, h2, h3, h4⟩ := wrN_mem.1 h
                rcases Nat.lt_or_ge k m.hp.length with hk | hk
                · rw [List.getElem?_append_left hk] at h1
                  rw [List.getElem?_append_left (by rw [H.len]; exact hk)] at h2
                  exact .inl (HB.lies_lt (H.lies k hb h1) (by rw [nm_get h2]; exact h4))
                · rw [List.getElem?_append_right hk] at h1
                  cases hkk : k - m.hp.length with
                  | zero =>
                    rw [hkk] at h1
                    simp at h1
                    subst h1
                    exact .inr h4.symm
                  | succ j => rw [hkk] at h1; simp at h1
            · refine (C.keep L' hL').goN H'.only (fun y hy => .inl (by simp [hy])) (fun y hy => ?_)
              rcases List.mem_append.1 hy with h | h
              · exact .inl (by simp [h])
              · rcases key y h with h | h
                · exact .inl (by simp [h])
                · exact .inr h
        refine ⟨β ++ [0], putS o.dst (.c (.v (v A' c'))) m.sl, m.hp ++ [.s A' c' nl E size ((l x).flatMap cf)], ?_, fun w2 hI => ?_, (h A' c' x w' _ hl N).go w' H'.rebase ?_⟩
        · rw [← fr_app n [0] (by rw [H.len]; exact SM.wf_sl W)]
          exact fr_put n (β ++ [0]) m.sl o.dst (.c (.v (v A' c')))
        · rw [hrd]; intro i hi; cases hi
        · simp only [SM.wf, SM.put, Bool.and_eq_true]
          refine ⟨?_, ?_⟩
          · rw [List.length_append]; exact putS_wf (Slots.wf_mono (by omega) (SM.wf_sl W)) rfl
          · rw [List.length_append]
            refine List.all_eq_true.2 fun y hy => ?_
            rcases List.mem_append.1 hy with hy | hy
            · have h1 := List.all_eq_true.1 hw y hy
              cases y with
              | b _ _ cs => exact List.all_eq_true.2 fun u hu => SC.wf_mono (by omega) (List.all_eq_true.1 h1 u hu)
              | _ => rfl
            · rw [List.mem_singleton.1 hy]; rfl
      · cases hc
    · cases hc
  · cases hc
end
end Go.Proofs.YtdplnedpbkpgpaaGreatDoor

namespace Go.Proofs.YtdplnedpbkpgpaaGreatDoor
set_option linter.all false
set_option maxRecDepth 100000

section
variable {P : Program} {f : FuncId} {R : Ending → World → Prop} {n : Nat} {w0 : World} {L : List Nat} {β : List Nat} {m : SM}
theorem eqGuard_ptr {op : BinOp} {T : TypeId} {x y : Operand} {p q : Option Addr} (w : World) : (eqGuard op T x y (.pointer p) (.pointer q)).run P w = .ok () w := by
  cases op <;> rfl
/-- An operation of two pointers. -/
theorem Hs.binP {op : BinOp} {T : TypeId} {p q : Option Addr} (v : Value) (hc : sameOf n β m = some (op, T, .pointer p, .pointer q)) (hr : ∀ w, (binOp op T (.pointer p) (.pointer q)).run P w = .ok v w) (h : Hs P f R n w0 L β (m.put (dstOf m) (.c (.v v)) m.hp)) : Hs P f R n w0 L β m := by
  refine ⟨fun w H W => ?_⟩
  unfold sameOf at hc
  split at hc
  · rename_i o hcur
    split at hc
    · rename_i hg
      split at hc
      · rename_i op' T' x y z hop
        simp only [Option.some.injEq, Prod.mk.injEq] at hc
        obtain ⟨rfl, rfl, hx, hy⟩ := hc
        have hd : dstOf m = o.dst := by unfold dstOf; rw [hcur]
        rw [hd] at h
        refine Gs.val (v := .c (.v v)) hcur hg ?_ (h.go w H ?_)
        · have hr := hr w
          simp only [execOp, hop, hx, hy, Sem.run_bind, eqGuard_ptr w, Result.andThen_ok, hr, Sem.run_pure]
          rfl
        · simp only [SM.wf, SM.put, Bool.and_eq_true]
          exact ⟨putS_wf (SM.wf_sl W) rfl, SM.wf_hp W⟩
      · cases hc
    · cases hc
  · cases hc
theorem run_eqp0 {T E k : TypeId} (hu : P.underlying T = some (.pointer E)) (hz : szB P E = some k) (hk : k ≠ 0) (g a b d : Nat) (w : World) : (Op.equalIn (d + 1) T (.pointer (some ⟨g, a, none⟩)) (.pointer (some ⟨g, b, none⟩))).run P w = .ok ((⟨g, a, none⟩ : Addr) == ⟨g, b, none⟩) w := by
  simp [Op.equalIn, run_underlying hu, run_sizeB hz w, hk, sameAddr]
theorem run_eqp {T E k : TypeId} (hu : P.underlying T = some (.pointer E)) (hz : szB P E = some k) (hk : k ≠ 0) (g a b : Nat) (w : World) : (binOp .eql T (.pointer (some ⟨g, a, none⟩)) (.pointer (some ⟨g, b, none⟩))).run P w = .ok (.bool ((⟨g, a, none⟩ : Addr) == ⟨g, b, none⟩)) w := by
  have h : (Op.equal T (.pointer (some ⟨g, a, none⟩)) (.pointer (some ⟨g, b, none⟩))).run P w = .ok ((⟨g, a, none⟩ : Addr) == ⟨g, b, none⟩) w := run_eqp0 hu hz hk g a b 9999 w
  simp only [binOp]
  simp [h]
theorem addr_eq (g a : Nat) : ((⟨g, a, none⟩ : Addr) == ⟨g, a, none⟩) = true := by simp
theorem addr_ne (g : Nat) {a b : Nat} (h : a ≠ b) : ((⟨g, a, none⟩ : Addr) == ⟨g, b, none⟩) = false := by simp [h]
end
end Go.Proofs.YtdplnedpbkpgpaaGreatDoor

namespace Go.Proofs.YtdplnedpbkpgpaaGreatDoor
set_option linter.all false

section
variable {P : Program} {f : FuncId} {R : Ending → World → Prop} {n : Nat} {w0 : World} {L : List Nat} {β : List Nat} {m : SM}
/-- As Hs.callE, whatever is still to be read. -/
theorem Hs.callE0 {X : Type} (v : X → Value) (Q : X → World → World → Prop) {F : FuncId} {args : Array Value} (hC : ∀ w, Mem w0 L β m.hp w → Calls P F args w fun e w' => ∃ x, e = .returned (v x) ∧ Only [] w w' ∧ Q x w w') (hc : callOf P n β m = some (F, args))
    (h : ∀ x w w1, Mem w0 L β m.hp w → Only [] w w1 → Q x w w1 → Back w0 L w1 (wrN β m.hp) → (∀ y ∈ wrN β m.hp, y < w.heap.size) → Hs P f R n w1 (wrN β m.hp) β (m.put (dstOf m) (.c (.v (v x))) m.hp)) : Hs P f R n w0 L β m := by
  refine ⟨fun w H W => ?_⟩
  unfold callOf at hc
  split at hc
  · rename_i o ho
    split at hc
    · rename_i hg
      split at hc
      · rename_i F' args' hp
        injection hc with hc
        injection hc with h1 h2
        subst h1; subst h2
        have hd : dstOf m = o.dst := by unfold dstOf; rw [ho]
        rw [hd] at h
        refine Gs.op ho hg ?_
        unfold Oper.wp
        rw [fr_eval, pureOut_run P _ _ hp w]
        refine Calls.mono (hC w H) ?_
        rintro e w' ⟨x, rfl, O, hQ⟩
        have H' := H.step O
        refine ⟨β, putS o.dst (.c (.v (v x))) m.sl, m.hp, fr_put n β m.sl o.dst (.c (.v (v x))), fun w2 hI => hI, (h x w w' H O hQ H'.back H.wrN_lt).go w' H'.rebase ?_⟩
        simp only [SM.wf, SM.put, Bool.and_eq_true]
        exact ⟨putS_wf (SM.wf_sl W) rfl, SM.wf_hp W⟩
      · cases hc
    · cases hc
  · cases hc
/-- As Hs.callN, whatever is still to be read. -/
theorem Hs.callN0 {X : Type} {g : Nat} (v : X → Value) {w00 : World} {D0 F : World → Prop} (A' : X → World → Prop) {Fn : FuncId} {args : Array Value} (k : Nat) {T : TypeId} {cs0 : List SC}
    (C : Cx w00 g D0 w0 L F) (hβ : β[k]? = some g) (hk : m.hp[k]? = some (.b true T cs0))
    (hC : ∀ w, Mem w0 L β m.hp w → Calls P Fn args w fun e w' => ∃ x, e = .returned (v x) ∧ Only [] w w' ∧ ∀ L, (∀ y ∈ L, y < w.heap.size) → Keeps w' L (A' x))
    (hc : callOf P n β m = some (Fn, args))
    (h : ∀ x w1 L1, Cx w00 g D0 w1 L1 (fun w => A' x w ∧ F w) → Hs P f R n w1 L1 β (m.put (dstOf m) (.c (.v (v x))) m.hp)) : Hs P f R n w0 L β m := by
  refine Hs.callE0 v (fun x w w' => ∀ L, (∀ y ∈ L, y < w.heap.size) → Keeps w' L (A' x)) hC hc fun x w w1 H O q B hL => ?_
  have hgm : g ∈ wrN β m.hp := wrN_mem.2 ⟨k, _, g, hk, hβ, rfl, rfl⟩
  have O1 : Only [g] w w1 := O.mono (by simp)
  exact h x w1 _ (C.move H O1 (fun L hL hg hk => (q L hL).and (hk.go (O1.mono (by simpa using hg)))) hgm)
end
end Go.Proofs.YtdplnedpbkpgpaaGreatDoor

namespace Go.Proofs.YtdplnedpbkpgpaaGreatDoor
set_option linter.all false
set_option maxRecDepth 100000
open Go.RowKit

def cu8 (x : Int) : List Value := [.int .u8 x]
theorem cu8_len (x : Int) : (cu8 x).length = 1 := rfl
theorem cu8_one (x : Int) : ∀ u ∈ cu8 x, u.oneCell' = true := by
  intro u hu
  simp only [cu8, List.mem_singleton] at hu
  subst hu; rfl
theorem elemU8 : ElemT Tryz.prog 32 5 1 (Tryz.prog.bytesOf 5) := elemT_of (z := .int .u8 0) (by kernel_rfl) (by kernel_rfl) (by decide) (by decide)
theorem by_u8 : Tryz.prog.bytesOf 5 = 1 := by kernel_rfl
theorem u8_cell {w : World} {b off i : Nat} {l : List Int} {x : Int} (hr : RdX cu8 w (some ⟨b, off, none⟩) l) (hx : l[i]? = some x) : w.cell? ⟨b, off + i * 1, none⟩ = some (.int .u8 x) := by
  have := rdX_cell cu8_len hr hx (j := 0) (v := .int .u8 x) rfl
  exact this
/-- Bytes that are read; there is room for them. -/
def RdU (w : World) (A : Option Addr) (c : Nat) (l : List Int) : Prop := RdX cu8 w A l ∧ l.length ≤ c ∧ c ≤ maxLen
theorem ownX_keeps {w w' : World} {A : Option Addr} {cap : Nat} {l : List Int} {E : Nat} (h : OwnX cu8 E 1 w' w.heap.size (.slice A l.length cap) l) : ∀ L : List Nat, (∀ y ∈ L, y < w.heap.size) → Keeps w' L (fun w => RdU w A cap l) := fun L hL => by
  obtain ⟨A1, cap1, e1, hc1, hc2, hr, hA⟩ := h.form
  injection e1 with e1 e2 e3
  subst e1; subst e3
  refine (rdX_keeps hr fun a ha hx => ?_).and fun _ _ => ⟨hc1, hc2⟩
  have h1 := (hA a ha).1
  have h2 := hL _ hx
  omega
theorem rd_rdX {w : World} {A : Option Addr} {l : List Int} (h : Rd w A l) : RdX cu8 w A l := fun h0 => by
  obtain ⟨b, off, e, hb, hc⟩ := h h0
  refine ⟨b, off, e, hb, fun j u hj => ?_⟩
  have hl : l.flatMap cu8 = l.map (.int .u8) := by
    clear h h0 hc hj
    induction l with
    | nil => rfl
    | cons x l ih => simp only [List.flatMap_cons, ih]; rfl
  rw [hl, List.getElem?_map] at hj
  cases hx : l[j]? with
  | none => rw [hx] at hj; cases hj
  | some x => rw [hx] at hj; injection hj with hj; subst hj; exact hc j x hx
theorem rdU_nil (w : World) : RdU w none 0 [] := ⟨fun h => absurd h (by decide), Nat.le_refl _, by unfold maxLen; omega⟩
theorem RdU.only {w w' : World} {A : Option Addr} {c : Nat} {l : List Int} (h : RdU w A c l) (O : Only [] w w') : RdU w' A c l := ⟨h.1.only O, h.2⟩
end Go.Proofs.YtdplnedpbkpgpaaGreatDoor
