/- The machine: one cell of a row of ours is stored; over any program; no condition. -/
import Derived.Test.YtmmcamkmglpgiaaGreatDoorEngX
namespace Go.Proofs.YtmmcamkmglpgiaaGreatDoor
set_option linter.all false

theorem splice_len1 {α : Type} (vs : List α) (j : Nat) (v : α) (h : j < vs.length) : (splice vs j [v]).length = vs.length := by
  simp only [splice, List.length_append, List.length_take, List.length_drop, List.length_cons, List.length_nil]
  omega
theorem splice_take1 {α : Type} (cur : List α) (q j : Nat) (v : α) (h : j < q) (hq : q ≤ cur.length) : (splice cur j [v]).take q = splice (cur.take q) j [v] := by
  unfold splice
  simp only [List.length_cons, List.length_nil, Nat.zero_add]
  rw [List.take_append, List.take_take, List.length_take, Nat.min_eq_right (by omega : j ≤ q), Nat.min_eq_left (by omega : j ≤ cur.length), List.take_take, Nat.min_eq_left (by omega : j ≤ q)]
  congr 1
  rw [List.singleton_append, List.singleton_append]
  obtain ⟨d, hd⟩ : ∃ d, q - j = d + 1 := ⟨q - j - 1, by omega⟩
  rw [hd, List.take_succ_cons]
  congr 1
  rw [List.drop_take]
  congr 1
  omega
section
variable {P : Program} {f : FR} {R : Ending → World → Prop} {n : Nat} {w0 : World} {L : List Nat} {β : List Nat} {m : SM} {E size : Nat}
/-- One cell of a row of ours. -/
theorem Hs.stc (k : Nat) {g cap nl : Nat} {vs : List Value} (hk : m.hp[k]? = some (.s (some ⟨g, 0, none⟩) cap nl E size vs)) (j : Nat) (hj : j < vs.length) {v : Value} (hv : v.cells = #[v]) (hone : v.oneCell' = true) {E' : TypeId} (hz : szB P E' = some 1)
    (hs : semOf n β m = some (unitS (Instr.storeAt E' (.pointer (some ⟨g, j, none⟩)) v))) (hrd : (rdOf m).contains k = false)
    (h : Hs P f R n w0 L β (m.put (dstOf m) (.c (.v undef)) (m.hp.set k (.s (some ⟨g, 0, none⟩) cap nl E size (splice vs j [v]))))) : Hs P f R n w0 L β m := by
  refine Hs.opU hs fun w H W => ?_
  have hl : w.ownsRow 0 E size (.slice (some ⟨g, 0, none⟩) nl cap) nl vs := H.lies k _ hk
  obtain ⟨h1, ⟨h2, _⟩ | ⟨g', c', cur, e, hg, hh, hc, hm, hsz, ht⟩⟩ := hl
  · injection h2 with h2; cases h2
  injection e with e1 e2 e3
  injection e1 with e1
  injection e1 with e1
  subst e1; subst e3
  have hcl : cur.toList.length = cap * size := by rw [Array.length_toList, hsz]
  have hnc : nl * size ≤ cap * size := Nat.mul_le_mul_right _ hc
  have hB : Blk w g E cur.toList := by
    show w.heap[g]? = _
    rw [hh]
  have hle : j + [v].length ≤ cur.toList.length := by simp only [List.length_cons, List.length_nil]; omega
  have hst : (storeVar E' ⟨g, j, none⟩ v).run P w = .ok () (w.setCells g j [v]) := by
    have hc := run_storeCells_cells (P := P) g j [v] 0 w (fun i hi => by
        simpa using (blk_there hB j [v].length hle i (by simpa using hi)).1) (fun i hi => by
        simpa using (blk_there hB j [v].length hle i (by simpa using hi)).2) (by simpa using hone)
    simp only [Nat.add_zero] at hc
    unfold storeVar
    simp only [Sem.run_bind, run_sizeB hz w, Result.andThen_ok, hv]
    rw [if_neg (by simp)]
    simp [hc]
  have hB' := blk_setCells [v] j w cur.toList hB hle
  have hO : (w.setCells g j [v]).ownsRow 0 E size (.slice (some ⟨g, 0, none⟩) nl cap) nl (splice vs j [v]) := by
    refine ⟨by rw [splice_len1 _ _ _ hj, h1], .inr ⟨g, cap, (splice cur.toList j [v]).toArray, rfl, Nat.zero_le _, hB', hc, hm, ?_, ?_⟩⟩
    · rw [List.size_toArray, splice_len1 _ _ _ (by omega), hcl]
    · rw [splice_take1 _ _ _ _ (by omega) (by omega), ht]
  refine ⟨_, w.setCells g j [v], by simp only [Instr.storeAt, Instr.sureAddr, Sem.run_bind, Sem.run_pure, Result.andThen_ok, hst], H.reS k hk (only_setCells _ _ _) hO, ?_, fun i hi b hb => ?_, h⟩
  · simp only [Bool.and_eq_true, Nat.ble_eq, List.length_set]
    refine ⟨Nat.le_refl _, List.all_eq_true.2 fun x hx => ?_⟩
    rcases List.mem_or_eq_of_mem_set hx with hx | rfl
    · exact List.all_eq_true.1 (SM.wf_hp W) x hx
    · rfl
  · rw [List.getElem?_set, if_neg (fun e => by subst e; simp at hrd; exact hrd hi)]
    exact hb
end
end Go.Proofs.YtmmcamkmglpgiaaGreatDoor
