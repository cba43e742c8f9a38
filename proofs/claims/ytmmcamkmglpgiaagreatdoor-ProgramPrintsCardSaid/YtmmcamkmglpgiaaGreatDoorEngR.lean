/- The machine: a call that turns a block and a slice of ours at once; over any program; no condition. -/
import Derived.Test.YtmmcamkmglpgiaaGreatDoorEngQ
namespace Go.Proofs.YtmmcamkmglpgiaaGreatDoor
set_option linter.all false
set_option maxRecDepth 100000

theorem Mem.swap2 {w0 w w' : World} {L L' β : List Nat} {hp : List HB} (H : Mem w0 L β hp w) (k j : Nat) (hne : k ≠ j) {T T' : TypeId} {cs cs' : List SC} {h0 h1 : HB} (hk : hp[k]? = some (.b true T cs)) (hj : hp[j]? = some h0) (O : Only L' w w') (hL' : ∀ x ∈ L', x = nm β k ∨ h0.blk (nm β j) = some x) (hw0 : h0.wr = true)
    (hB : Blk w' (nm β k) T' (dens β cs')) (hl : h1.lies w' β (nm β j)) (hb : ∀ x, h1.blk (nm β j) = some x → h0.blk (nm β j) = some x ∨ w.heap.size ≤ x) : Mem w0 L β ((hp.set k (.b true T' cs')).set j h1) w' := by
  have hkl := (List.getElem?_eq_some_iff.1 hk).1
  have hjl := (List.getElem?_eq_some_iff.1 hj).1
  have hsz := O.size
  have hsz0 := H.only.size
  have hown : ∀ x ∈ L', x ∈ L ∨ w0.heap.size ≤ x := fun x hx => by
    rcases hL' x hx with rfl | h
    · exact H.own k _ _ hk rfl rfl
    · exact H.own j h0 x hj hw0 h
  have hget : ∀ (i : Nat) (x : HB), ((hp.set k (.b true T' cs')).set j h1)[i]? = some x → (i = j ∧ x = h1) ∨ (i = k ∧ i ≠ j ∧ x = .b true T' cs') ∨ (i ≠ j ∧ i ≠ k ∧ hp[i]? = some x) := fun i x hi => by
    rw [List.getElem?_set] at hi
    split at hi
    · rename_i e
      subst e
      simp only [List.length_set, hjl, if_true, Option.some.injEq] at hi
      exact .inl ⟨rfl, hi.symm⟩
    · rename_i e
      rw [List.getElem?_set] at hi
      split at hi
      · rename_i e2
        subst e2
        simp only [hkl, if_true, Option.some.injEq] at hi
        exact .inr (.inl ⟨rfl, fun h => e h.symm, hi.symm⟩)
      · rename_i e2
        exact .inr (.inr ⟨fun h => e h.symm, fun h => e2 h.symm, hi⟩)
  have key : ∀ (i : Nat) (y : HB) (x : Nat), ((hp.set k (.b true T' cs')).set j h1)[i]? = some y → y.blk (nm β i) = some x → (∃ h : HB, hp[i]? = some h ∧ h.blk (nm β i) = some x) ∨ (i = j ∧ w.heap.size ≤ x) := fun i y x hi hx => by
    rcases hget i y hi with ⟨rfl, rfl⟩ | ⟨rfl, _, rfl⟩ | ⟨_, _, h⟩
    · rcases hb x hx with h2 | h2
      · exact .inl ⟨h0, hj, h2⟩
      · exact .inr ⟨rfl, h2⟩
    · exact .inl ⟨_, hk, hx⟩
    · exact .inl ⟨y, h, hx⟩
  refine ⟨H.only.trans O hown, by simp [H.len], fun i x hi => ?_, fun i x y hi hwr hy => ?_, fun i i' hi hi' x ei ei' li li' => ?_⟩
  · rcases hget i x hi with ⟨rfl, rfl⟩ | ⟨rfl, _, rfl⟩ | ⟨n1, n2, h⟩
    · exact hl
    · exact hB
    · refine HB.lies_only (H.lies i x h) O fun y hy hm => ?_
      rcases hL' y hm with e | e
      · exact n2 (H.inj i k x _ y h hk hy (by rw [e]; rfl))
      · exact n1 (H.inj i j x h0 y h hj hy e)
  · rcases hget i x hi with ⟨rfl, rfl⟩ | ⟨rfl, _, rfl⟩ | ⟨n1, n2, h⟩
    · rcases hb y hy with h2 | h2
      · exact H.own i h0 y hj hw0 h2
      · exact .inr (by omega)
    · exact H.own i _ y hk rfl hy
    · exact H.own i x y h hwr hy
  · rcases key i hi x ei li with ⟨a, ha, la⟩ | ⟨e, h2⟩ <;> rcases key i' hi' x ei' li' with ⟨c, hc, lc⟩ | ⟨e', h2'⟩
    · exact H.inj i i' a c x ha hc la lc
    · have := HB.lies_lt (H.lies i a ha) la
      omega
    · have := HB.lies_lt (H.lies i' c hc) lc
      omega
    · rw [e, e']

theorem wrap_nextJ {i n : Nat} (hn : n ≤ maxLen) (h : i < n := by assumption) : Value.int .i64 (IntKind.i64.wrap ((i : Int) + 1)) = (SV.c (.v (.int .i64 (i + 1 : Nat)))).den [] := by
  show Value.int .i64 _ = Value.int .i64 _
  rw [IntWalk.i64_in _ (by unfold maxLen at hn; omega)]
  rfl
/-- One block that is only read. -/
theorem Mem.rdB1 (w : World) (g : Nat) {T : Nat} {cs : List SC} (hg : Blk w g T (dens [g] cs)) : Mem w [] [g] [.b false T cs] w :=
  Mem.start _ _ _ _ rfl (fun k h hk => by
    cases k with
    | zero => simp at hk; subst hk; exact hg
    | succ k => simp at hk) (fun k h x hk hw _ => by
    cases k with
    | zero => simp at hk; subst hk; cases hw
    | succ k => simp at hk) (fun i j hi hj x ei ej _ _ => by
    cases i with
    | succ i => simp at ei
    | zero =>
      cases j with
      | succ j => simp at ej
      | zero => rfl)


section
variable {P : Program} {f : FR} {R : Ending → World → Prop} {n : Nat} {w0 : World} {L : List Nat} {β : List Nat} {m : SM}
variable {α : Type} {cf : α → List Value} {E size : Nat}
/-- A call that turns the block k and the slice j. -/
theorem Hs.callBS (k j : Nat) {T : TypeId} {cs0 : List SC} (v : Value) (cs : Option Addr → Nat → List SC) (l l' : List α) (nl nl' : Nat) (hl : l.length = nl) (hl' : l'.length = nl') {A : Option Addr} {cap : Nat} {F : FuncId} {args : Array Value} (hne : k ≠ j) (hk : m.hp[k]? = some (.b true T cs0)) (hj : m.hp[j]? = some (.s A cap nl E size (l.flatMap cf)))
    (hC : ∀ w, Mem w0 L β m.hp w → Blk w (nm β k) T (dens β cs0) → OwnX cf E size w 0 (.slice A nl cap) l → (∀ x, Value.ownBlock (.slice A nl cap) = some x → x ≠ nm β k) → Calls P F args w fun e w' => ∃ A' cap', e = .returned v ∧ Only (nm β k :: (Value.ownBlock (.slice A nl cap)).toList) w w' ∧ Blk w' (nm β k) T (dens β (cs A' cap')) ∧ OwnX cf E size w' 0 (.slice A' nl' cap') l' ∧ WhereG (.slice A nl cap) (.slice A' nl' cap') w.heap.size)
    (hc : callOf P n β m = some (F, args)) (hrd : ((rdOf m).contains k || (rdOf m).contains j) = false) (hwf : ∀ A' cap', (cs A' cap').all (SC.wf m.hp.length) = true)
    (h : ∀ A' cap', nl' ≤ cap' → cap' ≤ maxLen → Hs P f R n w0 L β (m.put (dstOf m) (.c (.v v)) ((m.hp.set k (.b true T (cs A' cap'))).set j (.s A' cap' nl' E size (l'.flatMap cf))))) : Hs P f R n w0 L β m := by
  subst hl
  refine ⟨fun w H W => ?_⟩
  refine (Hs.call hc (fun w H => ?_)).go w H W
  have hblk : ∀ x, Value.ownBlock (.slice A l.length cap) = some x → HB.blk (nm β j) (.s A cap l.length E size (l.flatMap cf)) = some x := fun x hx => by
    cases A with
    | none => cases hx
    | some a => simpa [Value.ownBlock, HB.blk] using hx
  refine Calls.mono (hC w H (H.at k hk) (H.ownX j rfl hj) (fun x hx e => hne (H.inj k j _ _ x hk hj (by rw [e]; rfl) (hblk x hx)))) ?_
  rintro e w' ⟨A', cap', rfl, O, hB, hO, hw⟩
  have h5 := hO
  unfold OwnX at h5
  rw [hl'] at h5
  obtain ⟨A1, cap1, e1, hc1, hc2, _, _⟩ := hO.form
  injection e1 with e1 e2 e3
  subst e1; subst e3
  rw [hl'] at hc1
  have hd := H.swap2 k j hne (T' := T) (cs' := cs A' cap') (h1 := .s A' cap' nl' E size (l'.flatMap cf)) hk hj O (fun x hx => by
    rcases List.mem_cons.1 hx with h | h
    · exact .inl h
    · exact .inr (hblk x (Option.mem_toList.1 h))) rfl hB h5 (fun x hx => by
    have hb : Value.ownBlock (.slice A' nl' cap') = some x := by
      cases A' with
      | none => cases hx
      | some a => simp only [HB.blk, Option.map_some] at hx; exact hx
    rcases hw x hb with h4 | h4
    · exact .inl (hblk x h4)
    · exact .inr h4)
  refine ⟨[], .c (.v v), (m.hp.set k (.b true T (cs A' cap'))).set j (.s A' cap' nl' E size (l'.flatMap cf)), rfl, by rw [List.append_nil]; exact hd, ?_, fun i hi b hb => ?_, by rw [List.append_nil]; exact h A' cap' hc1 hc2⟩
  · simp only [SV.wf, SC.wf, Bool.true_and, Bool.and_eq_true, Nat.ble_eq, List.length_set]
    refine ⟨Nat.le_refl _, List.all_eq_true.2 fun x hx => ?_⟩
    rcases List.mem_or_eq_of_mem_set hx with hx | rfl
    · rcases List.mem_or_eq_of_mem_set hx with hx | rfl
      · exact List.all_eq_true.1 (SM.wf_hp W) x hx
      · exact hwf A' cap'
    · rfl
  · simp only [Bool.or_eq_false_iff] at hrd
    have hi1 : i ≠ j := fun e => by subst e; have := hrd.2; simp at this; exact this hi
    have hi2 : i ≠ k := fun e => by subst e; have := hrd.1; simp at this; exact this hi
    rw [List.getElem?_set, if_neg (fun e => hi1 e.symm), List.getElem?_set, if_neg (fun e => hi2 e.symm)]
    exact hb
end
end Go.Proofs.YtmmcamkmglpgiaaGreatDoor
