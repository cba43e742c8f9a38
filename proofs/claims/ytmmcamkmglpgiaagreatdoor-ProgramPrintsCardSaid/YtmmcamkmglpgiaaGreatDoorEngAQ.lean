/- The machine: slices of ours that may begin within their block: appended to, cut at the front; over any program; no condition. -/
import Derived.Test.YtmmcamkmglpgiaaGreatDoorEngAP
import Derived.Test.YtmmcamkmglpgiaaGreatDoorEngJ
namespace Go.Proofs.YtmmcamkmglpgiaaGreatDoor
set_option linter.all false
set_option maxRecDepth 100000
open Go.RowKit

section
variable {α : Type} {cf : α → List Value} {E size : Nat} {w w' : World} {A : Option Addr} {cap : Nat} {l : List α}
/-- A slice of ours. -/
def OwnO (cf : α → List Value) (E size : Nat) (w : World) (A : Option Addr) (cap : Nat) (l : List α) : Prop := l.length ≤ cap ∧ cap ≤ maxLen ∧ ((A = none ∧ cap = 0) ∨ ∃ g off vs, A = some ⟨g, off, none⟩ ∧ Blk w g E vs ∧ off + cap * size ≤ vs.length ∧ (vs.drop off).take (l.length * size) = l.flatMap cf)
def bkO (A : Option Addr) : List Nat := (A.map (·.block)).toList
theorem OwnO.st : StX (bkO A) (fun w => OwnO cf E size w A cap l) := fun w w' _ he h => by
  refine ⟨h.1, h.2.1, ?_⟩
  rcases h.2.2 with h | ⟨g, off, vs, hA, hB, hr⟩
  · exact .inl h
  · refine .inr ⟨g, off, vs, hA, (he g ?_).trans hB, hr⟩
    unfold bkO
    rw [hA]
    simp
theorem OwnO.stq (w w' : World) (h1 : ∀ a, A = some a → w'.heap[a.block]? = w.heap[a.block]?) (h2 : w.heap.size ≤ w'.heap.size) (h : OwnO cf E size w A cap l) : OwnO cf E size w' A cap l := OwnO.st w w' h2 (fun x hx => by
  unfold bkO at hx
  rw [Option.mem_toList, Option.map_eq_some_iff] at hx
  obtain ⟨a, ha, rfl⟩ := hx
  exact h1 a ha) h
theorem OwnO.lt (h : OwnO cf E size w A cap l) : ∀ a, A = some a → a.block < w.heap.size := fun a ha => by
  rcases h.2.2 with ⟨h, _⟩ | ⟨g, off, vs, hA, hB, hr⟩
  · rw [h] at ha; cases ha
  · rw [hA] at ha; injection ha with ha; subst ha; exact Blk.lt hB
theorem OwnO.rd (h : OwnO cf E size w A cap l) (hcl : ∀ x, (cf x).length = size) : RdX cf w A l := fun h0 => by
  rcases h.2.2 with ⟨_, h1⟩ | ⟨g, off, vs, hA, hB, h1, h2⟩
  · have := h.1; omega
  · refine ⟨g, off, hA, Blk.lt hB, fun j u hj => ?_⟩
    rw [← h2, List.getElem?_take] at hj
    split at hj
    · rw [List.getElem?_drop] at hj
      rw [hB.cell]; exact hj
    · cases hj
theorem OwnO.none_ : OwnO cf E size w none 0 [] := ⟨Nat.le_refl _, Nat.zero_le _, .inl ⟨rfl, rfl⟩⟩
theorem OwnX.toO (hcl : ∀ x, (cf x).length = size) (h : OwnX cf E size w 0 (.slice A l.length cap) l) : OwnO cf E size w A cap l := by
  obtain ⟨h1, ⟨h2, h3⟩ | ⟨g, c, cur, e, _, hh, hc, hm, hs, ht⟩⟩ := h
  · injection h2 with h4 h5 h6
    subst h4; subst h6
    exact ⟨by omega, by unfold maxLen; omega, .inl ⟨rfl, rfl⟩⟩
  · injection e with e1 e2 e3
    subst e1; subst e3
    refine ⟨hc, hm, .inr ⟨g, 0, cur.toList, rfl, hh, by simp [hs], ?_⟩⟩
    simpa using ht
/-- The front is cut off. -/
theorem OwnO.cut (hcl : ∀ x, (cf x).length = size) {x : α} {g off : Nat} (h : OwnO cf E size w (some ⟨g, off, none⟩) cap (x :: l)) : OwnO cf E size w (some ⟨g, off + 1 * size, none⟩) (cap - 1) l := by
  obtain ⟨h1, h2, ⟨h3, _⟩ | ⟨g', off', vs, e, hB, h3, h4⟩⟩ := h
  · cases h3
  injection e with e; injection e with e1 e2; subst e1; subst e2
  simp only [List.length_cons] at h1 h4
  refine ⟨by omega, by omega, .inr ⟨g, off + 1 * size, vs, rfl, hB, ?_, ?_⟩⟩
  · have : 1 * size + (cap - 1) * size = cap * size := by rw [← Nat.add_mul]; congr 1; omega
    omega
  · have e2 : ((vs.drop off).take ((l.length + 1) * size)).drop size = ((x :: l).flatMap cf).drop size := by rw [h4]
    rw [List.flatMap_cons, List.drop_left' (hcl x), List.drop_take, List.drop_drop] at e2
    rw [Nat.one_mul, ← e2]
    congr 1
    rw [Nat.succ_mul]; omega
def cutA (g off cap size : Nat) : Option Addr := if cap = 1 then some ⟨g, off, none⟩ else some ⟨g, off + 1 * size, none⟩
theorem OwnO.cutS (hcl : ∀ x, (cf x).length = size) {x : α} {g off : Nat} (h : OwnO cf E size w (some ⟨g, off, none⟩) cap (x :: l)) : OwnO cf E size w (cutA g off cap size) (cap - 1) l := by
  unfold cutA
  split
  · rename_i hc
    obtain ⟨h1, h2, ⟨h3, _⟩ | ⟨g', off', vs, e, hB, h3, h4⟩⟩ := h
    · cases h3
    subst hc
    simp only [List.length_cons] at h1
    have hl : l = [] := List.eq_nil_of_length_eq_zero (by omega)
    subst hl
    exact ⟨Nat.le_refl _, Nat.zero_le _, .inr ⟨g', off', vs, e, hB, by omega, by simp⟩⟩
  · exact h.cut hcl
theorem cutA_bk (g off cap size : Nat) : bkO (cutA g off cap size) = [g] := by
  unfold cutA
  split <;> rfl
variable {P : Program} {tS bytes : Nat}
theorem run_appO (ht : ElemT P tS E size bytes) (ty : TypeId) (hone : ∀ x, ∀ u ∈ cf x, u.oneCell' = true) (hcl : ∀ x, (cf x).length = size) (h : OwnO cf E size w A cap l) {b o : Nat} (c : Nat) (gs : List α) (h0 : 0 < gs.length) (hr : RdX cf w (some ⟨b, o, none⟩) gs)
    (hlen : l.length + gs.length ≤ maxLen) (hby : (l.length + gs.length) * bytes ≤ 140737488355328) :
    ∃ A' cap' w', (Builtin.append_ #[tS, tS] ty #[.slice A l.length cap, .slice (some ⟨b, o, none⟩) gs.length c]).run P w = .ok (.slice A' (l.length + gs.length) cap') w' ∧ OwnO cf E size w' A' cap' (l ++ gs) ∧ Only (bkO A) w w' ∧ (A' = A ∨ ∀ a, A' = some a → w.heap.size ≤ a.block) := by
  have hgl := flatMap_len hcl gs
  have hll := flatMap_len hcl l
  have ht0 := ht
  obtain ⟨hu, ⟨i0, z, hi, hz0, hz1, hz2, hzs⟩, hpos⟩ := ht
  obtain ⟨b', o', e, hb, hc⟩ := hr h0
  injection e with e; injection e with e1 e2; subst e1; subst e2
  have hn : ∀ j u, (gs.flatMap cf)[j]? = some u → w.cell? ((⟨b, o, none⟩ : Addr).add j) = some u := fun j u hj => by rw [Addr.add_lit]; exact hc j u hj
  have h1c : ∀ u ∈ gs.flatMap cf, u.oneCell' = true := fun u hu => by
    obtain ⟨x, _, hx⟩ := List.mem_flatMap.1 hu
    exact hone x u hx
  rcases h.2.2 with ⟨rfl, rfl⟩ | ⟨g, off, vs, rfl, hB, hcap, hl⟩
  · have hl0 : l = [] := List.eq_nil_of_length_eq_zero (by have := h.1; omega)
    subst hl0
    obtain ⟨v', w', e, h2, h3, h4⟩ := run_appX (P := P) (base := 0) ht0 ty hone (ownX_nil (w := w)) (some ⟨b, o, none⟩) c gs hgl hr (by simpa using hlen) (by simpa using hby) (Nat.zero_le _)
    obtain ⟨A', cap', rfl, hle, hmax, _, hbl⟩ := h2.form
    simp only [List.nil_append, List.length_nil, Nat.zero_add] at h2 h4 e ⊢
    refine ⟨A', cap', w', e, h2.toO hcl, h3, ?_⟩
    rcases h4 with h4 | h4
    · left
      cases A' with
      | none => rfl
      | some a => cases h4
    · right
      intro a ha
      subst ha
      injection h4 with h4
      omega
  · by_cases hroom : l.length + gs.length ≤ cap
    · have hst := run_storeCells_cells (P := P) g (off + l.length * size) (gs.flatMap cf) 0 w (fun j hj => by
        have := blk_there hB (off + l.length * size) (gs.length * size) (by
          have : (l.length + gs.length) * size ≤ cap * size := Nat.mul_le_mul_right _ hroom
          rw [Nat.add_mul] at this
          omega) j (by rw [← hgl]; exact hj)
        simpa using this.1) (fun j hj => by
        have := blk_there hB (off + l.length * size) (gs.length * size) (by
          have : (l.length + gs.length) * size ≤ cap * size := Nat.mul_le_mul_right _ hroom
          rw [Nat.add_mul] at this
          omega) j (by rw [← hgl]; exact hj)
        simpa using this.2) h1c
      simp only [Nat.add_zero] at hst
      have hf := run_firstCells_some (P := P) w i0.size gs.length ⟨b, o, none⟩ gs.length c (gs.flatMap cf) (by rw [hz1]; exact hgl) (by simpa using hn)
      refine ⟨some ⟨g, off, none⟩, cap, w.setCells g (off + l.length * size) (gs.flatMap cf), ?_, ?_, ?_, .inl rfl⟩
      · rw [hz1] at hf
        simp [Builtin.append_, run_underlying hu, sizeOf, typeInfo, hi, hz1, Builtin.lenOf, hf, hroom, Addr.add_mid, hst]
      · have hle : off + l.length * size + (gs.flatMap cf).length ≤ vs.length := by
          have : (l.length + gs.length) * size ≤ cap * size := Nat.mul_le_mul_right _ hroom
          rw [Nat.add_mul] at this
          omega
        refine ⟨by rw [List.length_append]; exact hroom, h.2.1, .inr ⟨g, off, _, rfl, blk_setCells _ _ _ _ hB hle, ?_, ?_⟩⟩
        · simp only [splice, List.length_append, List.length_take, List.length_drop]; omega
        · rw [List.flatMap_append, ← hl]
          unfold splice
          rw [List.drop_append_of_le_length (by rw [List.length_take]; omega)]
          rw [List.drop_take, show off + l.length * size - off = l.length * size by omega]
          rw [List.length_append, Nat.add_mul, List.take_append, List.length_take, List.length_drop]
          rw [show min (l.length * size) (vs.length - off) = l.length * size by omega]
          rw [show l.length * size + gs.length * size - l.length * size = gs.length * size by omega]
          rw [List.take_append_of_le_length (by omega), List.take_take, show min (l.length * size + gs.length * size) (l.length * size) = l.length * size by omega]
          congr 1
          exact List.take_of_length_le (by omega)
      · exact (only_setCells _ _ _).mono (by simp [bkO])
    · have holds : ∀ j u, (l.flatMap cf)[j]? = some u → w.cell? ((⟨g, off, none⟩ : Addr).add j) = some u := fun j u hj => by
        rw [Addr.add_lit]
        have h0 : 0 < l.length := by
          rcases Nat.eq_zero_or_pos l.length with h0 | h0
          · have : l = [] := List.eq_nil_of_length_eq_zero h0
            subst this; simp at hj
          · exact h0
        obtain ⟨b2, o2, e2, _, hc2⟩ := h.rd hcl h0
        injection e2 with e2; injection e2 with e3 e4; subst e3; subst e4
        exact hc2 j u hj
      have hrun := run_append_grow (P := P) w tS ty E i0 z hu hi hz0 ⟨g, off, none⟩ l.length cap (l.flatMap cf) (by rw [hz1]; exact hll) holds ⟨b, o, none⟩ gs.length c (gs.flatMap cf) (by rw [hz1]; exact hgl) hn (by omega) (by unfold maxLen at hlen; omega) (growslice_fits (by omega) (by rw [hz2]; exact hby))
      obtain ⟨Z, hZ⟩ : ∃ Z, Builtin.zeroCells z.cells (grownCap w (l.length + gs.length) cap E - (l.length + gs.length)) = Z := ⟨_, rfl⟩
      have hZl : Z.toList.length = (grownCap w (l.length + gs.length) cap E - (l.length + gs.length)) * size := by rw [← hZ, zero_len, hzs]
      rw [hZ] at hrun
      have harr : (l.flatMap cf).toArray ++ (gs.flatMap cf).toArray ++ Z = ((l.flatMap cf ++ gs.flatMap cf) ++ Z.toList).toArray := by
        apply Array.ext'
        simp
      rw [harr] at hrun
      refine ⟨_, _, _, hrun, ?_, (((Only.refl [] w).drew).alloc _).mono (by simp), .inr fun a ha => by injection ha with ha; subst ha; exact Nat.le_refl _⟩
      refine ⟨by rw [List.length_append]; exact grownCap_ge _ _ _ _, grownCap_le_maxLen _ _ _ _ hlen, .inr ⟨w.heap.size, 0, _, rfl, heap_alloc_new w.drew _, ?_, ?_⟩⟩
      · have hge := grownCap_ge w (l.length + gs.length) cap E
        rw [List.length_append, List.length_append, hll, hgl, hZl, Nat.zero_add, ← Nat.add_mul, ← Nat.add_mul]
        exact Nat.mul_le_mul_right _ (by omega)
      · rw [List.drop_zero, List.flatMap_append, List.length_append, Nat.add_mul]
        have e3 : l.length * size + gs.length * size = (l.flatMap cf ++ gs.flatMap cf).length := by rw [List.length_append, hll, hgl]
        rw [e3]
        exact List.take_left
theorem run_cut (ht : ElemT P tS E size bytes) {g off n cap : Nat} (hn : 1 ≤ n) (w : World) : (Instr.sliceAt tS (.slice (some ⟨g, off, none⟩) n cap) (some (.int .i64 1)) none none).run P w = .ok (.slice (cutA g off cap size) (n - 1) (cap - 1)) w := by
  have hu : P.underlying tS = some (.slice (P.elem tS)) := by rw [ht.elem]; exact ht.ht
  rw [run_sliceAt_slice (h := hu), run_slice_l (ht := hu) (h0 := by omega) (h1 := by omega), ht.elem, ht.sizeOf]
  simp only [Result.andThen_ok, sliced, cutA]
  congr 2
  split
  · rename_i h; simp at h; simp [h]
  · rename_i h; simp at h; simp [h, Addr.add_lit]
def HB.oo (cf : α → List Value) (E size : Nat) (A : Option Addr) (cap : Nat) (l : List α) : HB := .q true A (fun w => OwnO cf E size w A cap l) OwnO.stq
end
section
variable {P : Program} {f : FR} {R : Ending → World → Prop} {n : Nat} {w0 : World} {L : List Nat} {β : List Nat} {m : SM}
variable {α : Type} {cf : α → List Value} {E size tS bytes : Nat} {A : Option Addr} {cap : Nat} {l : List α}
theorem Hs.appO (k : Nat) (ht : ElemT P tS E size bytes) (l gs : List α) (nl ng : Nat) (hl : l.length = nl) (hg : gs.length = ng) {b o c ty : Nat} (hone : ∀ x, ∀ u ∈ cf x, u.oneCell' = true) (hcl : ∀ x, (cf x).length = size)
    (hs : semOf n β m = some (valS (Builtin.append_ #[tS, tS] ty #[.slice A nl cap, .slice (some ⟨b, o, none⟩) ng c]))) (hk : m.hp[k]? = some (HB.oo cf E size A cap l)) (hrd : (rdOf m).contains k = false) (h0 : 0 < ng)
    (hr : ∀ w, Mem w0 L β m.hp w → RdX cf w (some ⟨b, o, none⟩) gs) (hlen : nl + ng ≤ maxLen) (hby : (nl + ng) * bytes ≤ 140737488355328)
    (h : ∀ A' cap', Hs P f R n w0 L β (m.put (dstOf m) (.c (.v (.slice A' (nl + ng) cap'))) (m.hp.set k (HB.oo cf E size A' cap' (l ++ gs))))) : Hs P f R n w0 L β m := by
  subst hl; subst hg
  refine Hs.opW hs fun w H W => ?_
  have ho : OwnO cf E size w A cap l := H.atQ k (wr := true) (A := A) (Q := fun w => OwnO cf E size w A cap l) (st := OwnO.stq) hk
  obtain ⟨A', cap', w', h1, h2, h3, h4⟩ := run_appO (P := P) ht ty hone hcl ho c gs h0 (hr w H) hlen hby
  have hq : (HB.oo cf E size A' cap' (l ++ gs)).lies w' β (nm β k) := ⟨h2, h2.lt⟩
  refine ⟨[], .c (.v (.slice A' (l.length + gs.length) cap')), m.hp.set k (HB.oo cf E size A' cap' (l ++ gs)), w', h1, ?_, ?_, fun i hi b hh => ?_, by rw [List.append_nil]; exact h A' cap'⟩
  · rw [List.append_nil]
    refine H.swap k hk h3 (fun x hx => ?_) rfl hq (fun x hx => ?_)
    · unfold bkO at hx
      rw [Option.mem_toList] at hx
      exact hx
    · rcases h4 with h4 | h4
      · left; subst h4; exact hx
      · right
        simp only [HB.oo, HB.blk, Option.map_eq_some_iff] at hx
        obtain ⟨a, ha, rfl⟩ := hx
        exact h4 a ha
  · simp only [SV.wf, SC.wf, Bool.true_and, Bool.and_eq_true, Nat.ble_eq, List.length_set]
    exact ⟨Nat.le_refl _, set_wf (SM.wf_hp W) rfl⟩
  · rw [List.getElem?_set, if_neg (fun e => by
      subst e
      simp at hrd
      exact hrd hi)]
    exact hh
theorem Hs.takeCut (j : Nat) (ht : ElemT P tS E size bytes) {rd : List Nat} {g off len cap : Nat} (hn : 1 ≤ len) (hs : semAt j n β m = some (valS (Instr.sliceAt tS (.slice (some ⟨g, off, none⟩) len cap) (some (.int .i64 1)) none none), rd)) (h : Hs P f R n w0 L β (takeM j (.c (.v (.slice (cutA g off cap size) (len - 1) (cap - 1)))) m)) : Hs P f R n w0 L β m :=
  Hs.takeV j (.c (.v (.slice (cutA g off cap size) (len - 1) (cap - 1)))) hs rfl (fun w _ => run_cut ht hn w) h
theorem Hs.cutN (ht : ElemT P tS E size bytes) {g off len cap : Nat} (hn : 1 ≤ len) (hs : semOf n β m = some (valS (Instr.sliceAt tS (.slice (some ⟨g, off, none⟩) len cap) (some (.int .i64 1)) none none))) (h : Hs P f R n w0 L β (m.put (dstOf m) (.c (.v (.slice (cutA g off cap size) (len - 1) (cap - 1)))) m.hp)) : Hs P f R n w0 L β m :=
  Hs.opV (.c (.v (.slice (cutA g off cap size) (len - 1) (cap - 1)))) hs rfl (fun w _ => run_cut ht hn w) h
end
end Go.Proofs.YtmmcamkmglpgiaaGreatDoor
