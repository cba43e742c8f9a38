/- The machine: append(nil, make(T, q)...), a row of ours cut down; over any program; no condition. -/
import Derived.Test.YtmmcamkmglpgiaaGreatDoorEngT
import Derived.Test.YtmmcamkmglpgiaaGreatDoorEngP
namespace Go.Proofs.YtmmcamkmglpgiaaGreatDoor
set_option linter.all false

section
variable {P : Program} {f : FR} {R : Ending → World → Prop} {n : Nat} {w0 : World} {L : List Nat} {β : List Nat} {m : SM}
variable {tS E size bytes : Nat}
/-- append(nil, make(T, q)...): a new row. -/
theorem Hs.growN (ht : ElemT P tS E size bytes) {tn ty : Nat} (htn : P.underlying tn = some (.int .i64)) {q : Nat} (hq : 0 < q) (hm : q ≤ maxLen) (hb : q * bytes ≤ 140737488355328)
    (hs : semOf n β m = some (valS (Builtin.append_ #[tS, tn] ty #[.slice none 0 0, .int .i64 q]))) (hrd : (rdOf m).all (fun k => Nat.blt k m.hp.length) = true)
    (h : ∀ g2 cap2 zs, zs.length = q * size → q ≤ cap2 → cap2 ≤ maxLen → Hs P f R n w0 L (β ++ [0]) (m.put (dstOf m) (.c (.v (.slice (some ⟨g2, 0, none⟩) q cap2))) (m.hp ++ [.s (some ⟨g2, 0, none⟩) cap2 q E size zs]))) : Hs P f R n w0 L β m := by
  refine Hs.opW hs fun w H W => ?_
  obtain ⟨hu, ⟨i0, z, hi, hz, hsz, hby, hzs⟩, hpos⟩ := ht
  subst hsz
  subst hby
  have hf : (Builtin.firstCells i0.size 0 (.slice none 0 0)).run P w.drew = .ok ([] : List Value).toArray w.drew := by
    simp [Builtin.firstCells]
  have hrun := Lib.run_append_grow_zeros (P := P) w tS tn ty E i0 z .i64 .i64 hu htn hi hz none 0 0 [] hf q hq hpos (by omega) (by unfold maxLen at hm; omega) (by omega) (growslice_fits (by omega) (by rw [Nat.zero_add]; exact hb))
  simp only [Nat.zero_add] at hrun
  have hge := grownCap_ge w q 0 E
  have hcm : grownCap w q 0 E ≤ maxLen := grownCap_le_maxLen w q 0 E hm
  have hw := SM.wf_hp W
  have hzl : (Builtin.zeroCells z.cells q).toList.length = q * i0.size := by rw [zero_len, hzs]
  refine ⟨[0], .c (.v (.slice (some ⟨w.heap.size, 0, none⟩) q (grownCap w q 0 E))), m.hp ++ [.s (some ⟨w.heap.size, 0, none⟩) (grownCap w q 0 E) q E i0.size (Builtin.zeroCells z.cells q).toList], _, hrun, ?_, ?_, fun k hk b hh => ?_, h w.heap.size _ _ hzl hge hcm⟩
  · refine H.push (h := .s _ _ _ _ _ _) (by rw [H.len]; exact hw) ?_ (fun y hy => ?_) ?_
    · exact ⟨rfl, rfl, rfl, by simp, fun k hk _ => heap_alloc_old _ _ hk⟩
    · simp only [HB.blk, Option.map_some, Option.some.injEq] at hy
      subst hy
      exact Nat.le_refl _
    · refine ⟨hzl, .inr ⟨w.heap.size, _, _, rfl, Nat.zero_le _, heap_alloc_new w.drew _, hge, hcm, ?_, ?_⟩⟩
      · simp only [Array.size_append, List.size_toArray, List.length_nil, size_zeroCells, hzs, Nat.zero_add, ← Nat.add_mul]
        congr 1
        omega
      · simp only [Array.toList_append, List.nil_append]
        exact List.take_left' hzl
  · simp only [SV.wf, SC.wf, Bool.true_and, Bool.and_eq_true, Nat.ble_eq, List.length_append, List.length_cons, List.length_nil, List.all_append, List.all_cons, List.all_nil, Bool.and_true]
    refine ⟨by omega, List.all_eq_true.2 fun y hy => ?_, rfl⟩
    have h1 := List.all_eq_true.1 hw y hy
    cases y with
    | b _ _ cs => exact List.all_eq_true.2 fun u hu => SC.wf_mono (by omega) (List.all_eq_true.1 h1 u hu)
    | _ => rfl
  · have := List.all_eq_true.1 hrd k hk
    rw [List.getElem?_append_left (blt_spec.1 this)]
    exact hh
/-- A row of ours is read as a shorter one. -/
theorem Hs.cutS (k : Nat) {g cap nl i : Nat} {vs : List Value} (hk : m.hp[k]? = some (.s (some ⟨g, 0, none⟩) cap nl E size vs)) (hi : i ≤ nl) (hrd : (match m.r with | .no => true | .lst .. => true | .lstN .. => true | _ => false) = true) (h : Hs P f R n w0 L β ⟨m.r, m.todo, m.sl, m.hp.set k (.s (some ⟨g, 0, none⟩) cap i E size (vs.take (i * size)))⟩) : Hs P f R n w0 L β m := by
  have hno : m.r = m.r := rfl
  refine ⟨fun w H W => ?_⟩
  have hl := H.lies k _ hk
  obtain ⟨h1, h2⟩ := hl
  have key : w.ownsRow 0 E size (.slice (some ⟨g, 0, none⟩) i cap) i (vs.take (i * size)) := by
    have hle : i * size ≤ nl * size := Nat.mul_le_mul_right _ hi
    refine ⟨by rw [List.length_take, h1]; exact Nat.min_eq_left hle, ?_⟩
    rcases h2 with ⟨e, _⟩ | ⟨g', c', cur, e, h3, h4, h5, h6, h7, h8⟩
    · cases e
    · injection e with e1 e2 e3
      injection e1 with e1
      injection e1 with e1
      subst e1; subst e3
      refine .inr ⟨g, cap, cur, rfl, h3, h4, by omega, h6, h7, ?_⟩
      rw [← h8, List.take_take, Nat.min_eq_left hle]
  have H' := H.reS k hk (Only.refl [g] w) key
  have g2 := h.go w H' (by
    simp only [SM.wf, Bool.and_eq_true] at W ⊢
    rw [List.length_set]
    refine ⟨W.1, List.all_eq_true.2 fun y hy => ?_⟩
    rcases List.mem_or_eq_of_mem_set hy with hy | rfl
    · exact List.all_eq_true.1 W.2 y hy
    · rfl)
  obtain ⟨r, todo, sl, hp⟩ := m
  cases r with
  | no => exact g2
  | lst => exact g2
  | lstN => exact g2
  | _ => cases hrd
end
end Go.Proofs.YtmmcamkmglpgiaaGreatDoor
