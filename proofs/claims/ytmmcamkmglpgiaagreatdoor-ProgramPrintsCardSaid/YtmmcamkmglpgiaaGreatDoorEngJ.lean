/- The machine: parts of slices, copies, literals appended to, cells of what is only read; over any program; no condition. -/
import Derived.Test.YtmmcamkmglpgiaaGreatDoorEngI
import Derived.Test.YtmmcamkmglpgiaaGreatDoorEngM
import Derived.Lib.Overlaps
import Derived.Lib.AppendZerosOnto
namespace Go.Proofs.YtmmcamkmglpgiaaGreatDoor
set_option linter.all false
set_option maxRecDepth 100000
open Go.RowKit

section
variable {P : Program} {f : FR} {R : Ending → World → Prop} {n : Nat} {w0 : World} {L : List Nat} {β : List Nat} {m : SM}
variable {α : Type} {cf : α → List Value} {tS E size bytes : Nat}
theorem ElemT.elem (ht : ElemT P tS E size bytes) : P.elem tS = E := by unfold Program.elem; rw [ht.ht]
theorem ElemT.sizeOf (ht : ElemT P tS E size bytes) (w : World) : (Go.sizeOf E).run P w = .ok size w := by
  obtain ⟨_, ⟨i, z, h1, _, h3, _⟩, _⟩ := ht
  simp [Go.sizeOf, typeInfo, h1, h3]
theorem run_slo (ht : ElemT P tS E size bytes) {g off n cap i : Nat} (hi : i < cap) (hn : i ≤ n) (w : World) : (Instr.sliceAt tS (.slice (some ⟨g, off, none⟩) n cap) (some (.int .i64 i)) none none).run P w = .ok (.slice (some ⟨g, off + i * size, none⟩) (n - i) (cap - i)) w := by
  have hu : P.underlying tS = some (.slice (P.elem tS)) := by rw [ht.elem]; exact ht.ht
  rw [run_sliceAt_slice (h := hu), run_slice_l (ht := hu) (h0 := by omega) (h1 := by omega), ht.elem, ht.sizeOf]
  simp only [Result.andThen_ok, sliced, Int.toNat_natCast]
  rw [if_neg (by omega)]
  simp [Addr.add_mid]
theorem run_shi (ht : ElemT P tS E size bytes) {g off n cap i : Nat} (hi : i ≤ cap) (w : World) : (Instr.sliceAt tS (.slice (some ⟨g, off, none⟩) n cap) none (some (.int .i64 i)) none).run P w = .ok (.slice (some ⟨g, off, none⟩) i cap) w := by
  have hu : P.underlying tS = some (.slice (P.elem tS)) := by rw [ht.elem]; exact ht.ht
  rw [run_sliceAt_slice (h := hu), run_slice_h (ht := hu) (h0 := by omega) (h2 := by omega), ht.elem, ht.sizeOf]
  simp only [Result.andThen_ok, sliced, Int.toNat_natCast]
  split <;> simp [Addr.add_mid]
/-- s[i:] -/
theorem Hs.slo (ht : ElemT P tS E size bytes) {g off len cap i : Nat} (hi : i < cap) (hn : i ≤ len) (hs : semOf n β m = some (valS (Instr.sliceAt tS (.slice (some ⟨g, off, none⟩) len cap) (some (.int .i64 i)) none none))) (h : Hs P f R n w0 L β (m.put (dstOf m) (.c (.v (.slice (some ⟨g, off + i * size, none⟩) (len - i) (cap - i)))) m.hp)) : Hs P f R n w0 L β m :=
  Hs.opV (.c (.v (.slice (some ⟨g, off + i * size, none⟩) (len - i) (cap - i)))) hs rfl (fun w _ => run_slo ht hi hn w) h
/-- s[:i] -/
theorem Hs.shi (ht : ElemT P tS E size bytes) {g off len cap i : Nat} (hi : i ≤ cap) (hs : semOf n β m = some (valS (Instr.sliceAt tS (.slice (some ⟨g, off, none⟩) len cap) none (some (.int .i64 i)) none))) (h : Hs P f R n w0 L β (m.put (dstOf m) (.c (.v (.slice (some ⟨g, off, none⟩) i cap))) m.hp)) : Hs P f R n w0 L β m :=
  Hs.opV (.c (.v (.slice (some ⟨g, off, none⟩) i cap))) hs rfl (fun w _ => run_shi ht hi w) h
/-- One cell of what is only read. -/
theorem run_ldc {E' b off : Nat} {v : Value} (ha : aggB P E' = some false) {w : World} (hc : w.cell? ⟨b, off, none⟩ = some v) : (Instr.loadAt E' (.pointer (some ⟨b, off, none⟩))).run P w = .ok v w := by
  simp [Instr.loadAt, Instr.sureAddr, loadVar, run_aggB ha w, hc]
theorem Hs.ldc {E' b off : Nat} (v : Value) (hs : semOf n β m = some (valS (Instr.loadAt E' (.pointer (some ⟨b, off, none⟩))))) (hc : ∀ w, Mem w0 L β m.hp w → w.cell? ⟨b, off, none⟩ = some v) (ha : aggB P E' = some false) (h : Hs P f R n w0 L β (m.put (dstOf m) (.c (.v v)) m.hp)) : Hs P f R n w0 L β m :=
  Hs.opV (.c (.v v)) hs rfl (fun w H => run_ldc ha (hc w H)) h
theorem rdX_cell (hcl : ∀ x, (cf x).length = size) {w : World} {b off : Nat} {l : List α} {i : Nat} {x : α} (hr : RdX cf w (some ⟨b, off, none⟩) l) (hx : l[i]? = some x) {j : Nat} {v : Value} (hj : (cf x)[j]? = some v) : w.cell? ⟨b, off + i * size + j, none⟩ = some v :=
  rdX_range hcl hr hx j v hj
/-- A row of ours, for a start. -/
theorem Mem.startS (w : World) {A : Option Addr} {cap nl : Nat} {vs : List Value} (h : w.ownsRow 0 E size (.slice A nl cap) nl vs) : Mem w (Value.ownBlock (.slice A nl cap)).toList [0] [.s A cap nl E size vs] w :=
  Mem.start _ _ _ _ rfl (fun k b hk => by
    cases k with
    | zero => simp at hk; subst hk; exact h
    | succ k => simp at hk) (fun k b x hk _ hx => by
    cases k with
    | zero =>
      simp at hk; subst hk
      cases A with
      | none => cases hx
      | some a => simp only [HB.blk, Option.map_some, Option.some.injEq] at hx; subst hx; simp [Value.ownBlock]
    | succ k => simp at hk) (fun i j hi hj x ei ej _ _ => by
    cases i with
    | succ i => simp at ei
    | zero =>
      cases j with
      | succ j => simp at ej
      | zero => rfl)
theorem Mem.rdB {w : World} {hp : List HB} (H : Mem w0 L β hp w) (k : Nat) {wr : Bool} {T : TypeId} {cs : List SC} {gs : List α} (hk : hp[k]? = some (.b wr T cs)) (hg : dens β cs = gs.flatMap cf) : RdX cf w (some ⟨nm β k, 0, none⟩) gs := fun h0 => by
  have hB := H.at k hk
  refine ⟨nm β k, 0, rfl, hB.lt, fun j u hj => ?_⟩
  rw [Nat.zero_add, hB.cell, hg]; exact hj
theorem Mem.toS {w w' : World} {hp : List HB} (H : Mem w0 L β hp w) (k : Nat) {h0 : HB} {v : Value} {A' : Option Addr} {cap' nl' : Nat} {l' : List α} (hl' : l'.length = nl') (hk : hp[k]? = some h0) (hw0 : h0.wr = true) (hb : h0.blk (nm β k) = v.ownBlock) (O : Only v.ownBlock.toList w w') (hO : OwnX cf E size w' 0 (.slice A' nl' cap') l') (hw : Where2 v (.slice A' nl' cap') w.heap.size) : Mem w0 L β (hp.set k (.s A' cap' nl' E size (l'.flatMap cf))) w' := by
  refine H.swap k hk O (fun x hx => ?_) hw0 ?_ (fun x hx => ?_)
  · rw [hb]; exact Option.mem_toList.1 hx
  · have h5 := hO
    unfold OwnX at h5
    rw [hl'] at h5
    exact h5
  · have hb' : Value.ownBlock (.slice A' nl' cap') = some x := by
      cases A' with
      | none => cases hx
      | some a => simp only [HB.blk, Option.map_some] at hx; exact hx
    rcases hw with h4 | h4
    · left; rw [hb, ← h4]; exact hb'
    · right
      rw [h4] at hb'
      injection hb' with hb'
      omega
theorem set_wf {hp : List HB} {k : Nat} {b : HB} {N : Nat} (h : hp.all (HB.wf N) = true) (hb : b.wf N = true) : (hp.set k b).all (HB.wf N) = true :=
  List.all_eq_true.2 fun x hx => by
    rcases List.mem_or_eq_of_mem_set hx with hx | rfl
    · exact List.all_eq_true.1 h x hx
    · exact hb
/-- append([]T{}, y...) -/
theorem Hs.litX (k : Nat) (ht : ElemT P tS E size bytes) (gs : List α) (ng : Nat) (hg : gs.length = ng) {B : Option Addr} {c ty : Nat} (hone : ∀ x, ∀ u ∈ cf x, u.oneCell' = true) (hcl : ∀ x, (cf x).length = size)
    (hs : semOf n β m = some (valS (Builtin.append_ #[tS, tS] ty #[.slice (some ⟨nm β k, 0, none⟩) 0 0, .slice B ng c]))) (hk : m.hp[k]? = some (.b true E [])) (hrd : (rdOf m).contains k = false)
    (hr : ∀ w, Mem w0 L β m.hp w → RdX cf w B gs) (hlen : ng ≤ maxLen) (hby : ng * bytes ≤ 140737488355328)
    (h : ∀ A' cap', ng ≤ cap' → cap' ≤ maxLen → Hs P f R n w0 L β (m.put (dstOf m) (.c (.v (.slice A' ng cap'))) (m.hp.set k (.s A' cap' ng E size (gs.flatMap cf))))) : Hs P f R n w0 L β m := by
  subst hg
  refine Hs.opW hs fun w H W => ?_
  have hB : Blk w (nm β k) E [] := by
    have := H.lies k _ hk
    simpa [HB.lies, dens] using this
  have hown : OwnX cf E size w 0 (.slice (some ⟨nm β k, 0, none⟩) 0 0) [] := ⟨by simp, .inr ⟨nm β k, 0, #[], rfl, Nat.zero_le _, hB, Nat.le_refl _, by decide, by simp, by simp⟩⟩
  obtain ⟨v', w', h1, h2, h3, h4⟩ := run_appX (ty := ty) ht hone hown B c gs (flatMap_len hcl gs) (hr w H) (by simpa using hlen) (by simpa using hby) (Nat.zero_le _)
  rw [List.nil_append] at h2
  obtain ⟨A', cap', rfl, hc1, hmax, _, hblk⟩ := h2.form
  refine ⟨[], .c (.v (.slice A' gs.length cap')), m.hp.set k (.s A' cap' gs.length E size (gs.flatMap cf)), w', h1, ?_, ?_, fun i hi b hh => ?_, by rw [List.append_nil]; exact h A' cap' hc1 hmax⟩
  · rw [List.append_nil]
    exact H.toS k rfl hk rfl rfl h3 h2 h4
  · simp only [SV.wf, SC.wf, Bool.true_and, Bool.and_eq_true, Nat.ble_eq, List.length_set]
    exact ⟨Nat.le_refl _, set_wf (SM.wf_hp W) rfl⟩
  · rw [List.getElem?_set, if_neg (fun e => by
      subst e
      simp at hrd
      exact hrd hi)]
    exact hh
/-- append(nil, y...) -/
theorem zero_len {z : Value} (n : Nat) : (Builtin.zeroCells z.cells n).toList.length = n * z.cells.size := by simp [Builtin.zeroCells]
theorem run_clr (ht : ElemT P tS E size bytes) {g off n c ty : Nat} {w : World} {T : Nat} {vs : List Value} (hB : Blk w g T vs) (hn : 0 < n) (hle : off + n * size ≤ vs.length) (hone : ∀ i z, P.info? E = some i → i.zero = some z → ∀ u ∈ z.cells.toList, u.oneCell' = true) :
    ∃ zs : List Value, zs.length = n * size ∧ (Builtin.clear_ #[tS] ty #[.slice (some ⟨g, off, none⟩) n c]).run P w = .ok (.tuple #[]) (w.setCells g off zs) := by
  obtain ⟨hu, ⟨i, z, h1, h2, h3, h4, h5⟩, hpos⟩ := ht
  obtain ⟨k, rfl⟩ : ∃ k, n = k + 1 := ⟨n - 1, by omega⟩
  refine ⟨(Builtin.zeroCells z.cells (k + 1)).toList, by rw [zero_len, h5], ?_⟩
  have hl : (Builtin.zeroCells z.cells (k + 1)).toList.length = (k + 1) * size := by rw [zero_len, h5]
  have hu1 : ∀ u ∈ (Builtin.zeroCells z.cells (k + 1)).toList, u.oneCell' = true := fun u hu => by
    simp only [Builtin.zeroCells, Array.toList_map, List.mem_map, Array.mem_toList_iff, Array.mem_range] at hu
    obtain ⟨j, hj, rfl⟩ := hu
    have hm : j % z.cells.size < z.cells.size := Nat.mod_lt _ (by omega)
    refine hone i z h1 h2 _ ?_
    rw [getElem!_pos z.cells _ hm]
    simp
  have hst := run_storeCells_cells (P := P) g off (Builtin.zeroCells z.cells (k + 1)).toList 0 w (fun j hj => by
        simpa using (blk_there hB off ((k + 1) * size) hle j (by rw [← hl]; exact hj)).1) (fun j hj => by
        simpa using (blk_there hB off ((k + 1) * size) hle j (by rw [← hl]; exact hj)).2) hu1
  simp only [Nat.add_zero] at hst
  simp [Builtin.clear_, run_underlying hu, zeroValue, typeInfo, h1, h2, hst]
theorem ownX_part {w w' : World} {g cap i : Nat} {l : List α} (hcl : ∀ x, (cf x).length = size) (h : OwnX cf E size w 0 (.slice (some ⟨g, 0, none⟩) l.length cap) l) (hi : i ≤ l.length) (h' : ∃ cur', Blk w' g E cur' ∧ cur'.length = cap * size ∧ cur'.take (i * size) = (l.take i).flatMap cf) : OwnX cf E size w' 0 (.slice (some ⟨g, 0, none⟩) i cap) (l.take i) := by
  obtain ⟨cur', hB, h3, h4⟩ := h'
  obtain ⟨h1, ⟨h2, _⟩ | ⟨g', c', cur, e, hg, hh, hc, hm, hs, ht⟩⟩ := h
  · injection h2 with h2; cases h2
  injection e with e1 e2 e3
  injection e1 with e1
  injection e1 with e1
  subst e1; subst e3
  have hl : (l.take i).length = i := by rw [List.length_take]; omega
  unfold OwnX World.ownsRow
  rw [hl]
  exact ⟨by rw [flatMap_len hcl, hl], .inr ⟨g, cap, cur'.toArray, rfl, hg, hB, by omega, hm, by simpa using h3, by simpa using h4⟩⟩
theorem flatMap_take (hcl : ∀ x, (cf x).length = size) : ∀ (l : List α) (i : Nat), i ≤ l.length → (l.flatMap cf).take (i * size) = (l.take i).flatMap cf
  | l, 0, _ => by simp
  | [], i + 1, h => by simp at h
  | a :: l, i + 1, h => by
    have ih := flatMap_take hcl l i (by simpa using h)
    have e : (i + 1) * size = (cf a).length + i * size := by rw [hcl, Nat.succ_mul, Nat.add_comm]
    rw [List.flatMap_cons, e, List.take_length_add_append, ih, List.take_succ_cons, List.flatMap_cons]
theorem flatMap_drop (hcl : ∀ x, (cf x).length = size) : ∀ (l : List α) (i : Nat), i ≤ l.length → (l.flatMap cf).drop (i * size) = (l.drop i).flatMap cf
  | l, 0, _ => by simp
  | [], i + 1, h => by simp at h
  | a :: l, i + 1, h => by
    have ih := flatMap_drop hcl l i (by simpa using h)
    have e : (i + 1) * size = (cf a).length + i * size := by rw [hcl, Nat.succ_mul, Nat.add_comm]
    rw [List.flatMap_cons, e, List.drop_length_add_append, ih, List.drop_succ_cons]
/-- clear(s[i:]): what stood ahead of it is left. -/
theorem Hs.clr (k : Nat) (ht : ElemT P tS E size bytes) (hcl : ∀ x, (cf x).length = size) (hz1 : ∀ i z, P.info? E = some i → i.zero = some z → ∀ u ∈ z.cells.toList, u.oneCell' = true) (l : List α) (nl i : Nat) (hl : l.length = nl) (hi : i < nl) {g cap c ty : Nat}
    (hs : semOf n β m = some (valS (Builtin.clear_ #[tS] ty #[.slice (some ⟨g, 0 + i * size, none⟩) (nl - i) c]))) (hk : m.hp[k]? = some (.s (some ⟨g, 0, none⟩) cap nl E size (l.flatMap cf))) (hrd : (rdOf m).contains k = false)
    (h : Hs P f R n w0 L β (m.put (dstOf m) (.t []) (m.hp.set k (.s (some ⟨g, 0, none⟩) cap i E size ((l.take i).flatMap cf))))) : Hs P f R n w0 L β m := by
  subst hl
  rw [Nat.zero_add] at hs
  refine Hs.opW hs fun w H W => ?_
  have hO := H.ownX k rfl hk
  have hO2 := hO
  obtain ⟨h1, ⟨h2, _⟩ | ⟨g', c', cur, e, hg, hh, hc, hm, hsz, htk⟩⟩ := hO
  · injection h2 with h2; cases h2
  injection e with e1 e2 e3
  injection e1 with e1
  injection e1 with e1
  subst e1; subst e3
  have hB : Blk w g E cur.toList := by
    show w.heap[g]? = _
    rw [hh]
  have hlen : cur.toList.length = cap * size := by rw [Array.length_toList, hsz]
  have hle : i * size + (l.length - i) * size ≤ cap * size := by
    rw [← Nat.add_mul]; exact Nat.mul_le_mul_right _ (by omega)
  have hil : i * size ≤ l.length * size := Nat.mul_le_mul_right _ (by omega)
  obtain ⟨zs, hzl, hrun⟩ := run_clr (P := P) (ty := ty) (c := c) ht hB (n := l.length - i) (off := i * size) (by omega) (by omega) hz1
  have hB' := blk_setCells zs (i * size) w cur.toList hB (by omega)
  refine ⟨[], .t [], m.hp.set k (.s (some ⟨g, 0, none⟩) cap i E size ((l.take i).flatMap cf)), _, hrun, ?_, ?_, fun j hj b hb => ?_, by rw [List.append_nil]; exact h⟩
  · rw [List.append_nil]
    refine H.ownTurn k (l' := l.take i) (by rw [List.length_take]; omega) hk (only_setCells _ _ _) (ownX_part hcl hO2 (Nat.le_of_lt hi) ⟨_, hB', ?_, ?_⟩) WhereG.same
    · simp only [splice, List.length_append, List.length_take, List.length_drop]; omega
    · unfold splice
      rw [List.take_append_of_le_length (by rw [List.length_take]; omega), List.take_take, Nat.min_self, ← flatMap_take hcl l i (Nat.le_of_lt hi), ← htk, List.take_take, Nat.min_eq_left hil]
  · simp only [SV.wf, List.all_nil, Bool.true_and, Bool.and_eq_true, Nat.ble_eq, List.length_set]
    exact ⟨Nat.le_refl _, set_wf (SM.wf_hp W) rfl⟩
  · rw [List.getElem?_set, if_neg (fun e => by
      subst e
      simp at hrd
      exact hrd hj)]
    exact hb
/-- A row of ours that has elements lies somewhere. -/
theorem Hs.someS (k : Nat) {A : Option Addr} {cap nl : Nat} {vs : List Value} (hk : m.hp[k]? = some (.s A cap nl E size vs)) (hn : 0 < nl) (h : ∀ g, A = some ⟨g, 0, none⟩ → Hs P f R n w0 L β m) : Hs P f R n w0 L β m :=
  ⟨fun w H W => by
    have hl : w.ownsRow 0 E size (.slice A nl cap) nl vs := H.lies k _ hk
    rcases hl.2 with ⟨_, h0⟩ | ⟨g, c, cur, e, _⟩
    · omega
    · injection e with e1
      exact (h g e1).go w H W⟩
/-- Memory that the call itself has made. -/
theorem Mem.fresh {w : World} {hp : List HB} (H : Mem w0 [] β hp w) (k : Nat) {A : Option Addr} {cap nl : Nat} {l : List α} (hl : l.length = nl) (hk : hp[k]? = some (.s A cap nl E size (l.flatMap cf))) : OwnX cf E size w w0.heap.size (.slice A nl cap) l := by
  have hO := H.ownX k hl hk
  obtain ⟨h1, h2 | ⟨g, c, cur, e, hg, rest⟩⟩ := hO
  · exact ⟨h1, .inl h2⟩
  · refine ⟨h1, .inr ⟨g, c, cur, e, ?_, rest⟩⟩
    injection e with e1
    subst e1
    exact (H.own k _ g hk rfl rfl).resolve_left (by simp)
theorem Mem.freshB {w : World} {hp : List HB} (H : Mem w0 [] β hp w) (k : Nat) {nl : Nat} {cs : List SC} (gs : List α) (hn : gs.length = nl) (hk : hp[k]? = some (.b true E cs)) (hg : dens β cs = gs.flatMap cf) (hcl : ∀ x, (cf x).length = size) (hm : nl ≤ maxLen) : OwnX cf E size w w0.heap.size (.slice (some ⟨nm β k, 0, none⟩) nl nl) gs := by
  subst hn
  have hB := H.at k hk
  have hlo := (H.own k _ (nm β k) hk rfl rfl).resolve_left (by simp)
  have hl := flatMap_len hcl gs
  refine ⟨hl, .inr ⟨nm β k, gs.length, (dens β cs).toArray, rfl, hlo, hB, Nat.le_refl _, hm, ?_, ?_⟩⟩
  · rw [hg]; simpa using hl
  · rw [hg, List.toList_toArray, ← hl]; exact List.take_length
theorem Mem.apart {w : World} {hp : List HB} (H : Mem w0 L β hp w) (i j : Nat) {A : Option Addr} {cap nl E' : Nat} {vs : List Value} {wr : Bool} {T : Nat} {cs : List SC} (hi : hp[i]? = some (.s A cap nl E' size vs)) (hj : hp[j]? = some (.b wr T cs)) (hij : i ≠ j) : ∀ a, A = some a → a.block ≠ nm β j := fun a ha he => by
  subst ha
  exact hij (H.inj i j _ _ a.block hi hj rfl (by rw [he]; rfl))
end
end Go.Proofs.YtmmcamkmglpgiaaGreatDoor
