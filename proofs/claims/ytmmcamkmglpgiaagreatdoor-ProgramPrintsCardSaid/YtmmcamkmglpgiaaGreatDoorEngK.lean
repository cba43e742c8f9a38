/- The machine: a row of ours widened, copied into, made anew with zeros behind; over any program; no condition. -/
import Derived.Test.YtmmcamkmglpgiaaGreatDoorEngJ
namespace Go.Proofs.YtmmcamkmglpgiaaGreatDoor
set_option linter.all false
set_option maxRecDepth 100000
open Go.RowKit

section
variable {P : Program} {f : FR} {R : Ending → World → Prop} {n : Nat} {w0 : World} {L : List Nat} {β : List Nat} {m : SM}
variable {tS E size bytes : Nat}
/-- An operation whose run is known. -/
theorem Hs.opN {s : Sem Next} (v : SV) (hs : semOf n β m = some s) (hv : v.wf m.hp.length = true) (h : ∀ w, Mem w0 L β m.hp w → s.run P w = .ok (.value (v.den β)) w) (k : Hs P f R n w0 L β (m.put (dstOf m) v m.hp)) : Hs P f R n w0 L β m := by
  obtain ⟨o, ho, hg, he, hd⟩ := semOf_spec hs
  refine ⟨fun w H W => ?_⟩
  rw [hd] at k
  refine Gs.op ho hg ?_
  unfold Oper.wp
  rw [fr_eval, he, h w H]
  refine ⟨β, _, m.hp, fr_put n β m.sl o.dst v, fun w2 hI => hI, k.go w H ?_⟩
  simp only [SM.wf, SM.put, Bool.and_eq_true]
  exact ⟨putS_wf (SM.wf_sl W) hv, SM.wf_hp W⟩
/-- s[i:], whatever s is. -/
theorem run_sloA (ht : ElemT P tS E size bytes) {A : Option Addr} {n cap i : Nat} (hn : i ≤ n) (w : World) : (Instr.sliceAt tS (.slice A n cap) (some (.int .i64 i)) none none).run P w = .ok (sliced A i n cap size) w := by
  have hu : P.underlying tS = some (.slice (P.elem tS)) := by rw [ht.elem]; exact ht.ht
  rw [run_sliceAt_slice (h := hu), run_slice_l (ht := hu) (h0 := by omega) (h1 := by omega), ht.elem, ht.sizeOf]
  simp only [Result.andThen_ok, Int.toNat_natCast]
theorem Hs.sloA (ht : ElemT P tS E size bytes) {A : Option Addr} {len cap i : Nat} (hn : i ≤ len) (hs : semOf n β m = some (valS (Instr.sliceAt tS (.slice A len cap) (some (.int .i64 i)) none none))) (h : Hs P f R n w0 L β (m.put (dstOf m) (.c (.v (sliced A i len cap size))) m.hp)) : Hs P f R n w0 L β m :=
  Hs.opV (.c (.v (sliced A i len cap size))) hs rfl (fun w _ => run_sloA ht hn w) h
theorem Mem.reS {w w' : World} {hp : List HB} (H : Mem w0 L β hp w) (k : Nat) {g cap nl nl' : Nat} {vs vs' : List Value} (hk : hp[k]? = some (.s (some ⟨g, 0, none⟩) cap nl E size vs)) (O : Only [g] w w') (hO : w'.ownsRow 0 E size (.slice (some ⟨g, 0, none⟩) nl' cap) nl' vs') : Mem w0 L β (hp.set k (.s (some ⟨g, 0, none⟩) cap nl' E size vs')) w' :=
  H.swap k hk O (fun x hx => by simp only [List.mem_singleton] at hx; subst hx; rfl) rfl hO (fun x hx => .inl hx)
/-- s[:len + d] within its room: what lies there is unknown. -/
theorem Hs.wide (k : Nat) {g cap nl : Nat} {vs : List Value} (hk : m.hp[k]? = some (.s (some ⟨g, 0, none⟩) cap nl E size vs)) (d : Nat) (hle : nl + d ≤ cap) (hrd : (rdOf m).contains k = false)
    (h : ∀ junk, junk.length = d * size → Hs P f R n w0 L β ⟨m.r, m.todo, m.sl, m.hp.set k (.s (some ⟨g, 0, none⟩) cap (nl + d) E size (vs ++ junk))⟩) (hno : (match m.r with | .no => true | .lst .. => true | .lstN .. => true | _ => false) = true) : Hs P f R n w0 L β m := by
  refine ⟨fun w H W => ?_⟩
  have hl : w.ownsRow 0 E size (.slice (some ⟨g, 0, none⟩) nl cap) nl vs := H.lies k _ hk
  obtain ⟨h1, ⟨h2, _⟩ | ⟨g', c', cur, e, hg, hh, hc, hm, hs, ht⟩⟩ := hl
  · injection h2 with h2; cases h2
  injection e with e1 e2 e3
  injection e1 with e1
  injection e1 with e1
  subst e1; subst e3
  have hmul : (nl + d) * size = nl * size + d * size := Nat.add_mul _ _ _
  have hle2 : (nl + d) * size ≤ cap * size := Nat.mul_le_mul_right _ hle
  have hlen : cur.toList.length = cap * size := by rw [Array.length_toList, hs]
  have hj : ((cur.toList.drop (nl * size)).take (d * size)).length = d * size := by
    rw [List.length_take, List.length_drop]; omega
  have e : cur.toList.take ((nl + d) * size) = vs ++ (cur.toList.drop (nl * size)).take (d * size) := by
    rw [hmul, List.take_add, ht]
  have H' : Mem w0 L β (m.hp.set k (.s (some ⟨g, 0, none⟩) cap (nl + d) E size (vs ++ (cur.toList.drop (nl * size)).take (d * size)))) w :=
    H.reS k hk (Only.refl _ _) ⟨by rw [List.length_append, h1, hj, hmul], .inr ⟨g, cap, cur, rfl, hg, hh, hle, hm, hs, e⟩⟩
  have g2 := (h _ hj).go w H' (by
    simp only [SM.wf, Bool.and_eq_true, List.length_set]
    exact ⟨SM.wf_sl W, set_wf (SM.wf_hp W) rfl⟩)
  obtain ⟨r, todo, sl, hp⟩ := m
  unfold Gs at g2 ⊢
  dsimp only at g2 ⊢ hno
  split at hno <;> first | exact g2 | cases hno
theorem run_copyX (ht : ElemT P tS E size bytes) {g o dLen dc sLen sc ty : Nat} {a : Addr} {src vs : List Value} {w : World} {T : Nat} (hsl : src.length = Nat.min sLen dLen * size) (hsrc : ∀ j v, src[j]? = some v → w.cell? (a.add j) = some v) (hB : Blk w g T vs) (hle : o + src.length ≤ vs.length) (h1 : ∀ v ∈ src, v.oneCell' = true) :
    (Builtin.copy_ #[tS, tS] ty #[.slice (some ⟨g, o, none⟩) dLen dc, .slice (some a) sLen sc]).run P w = .ok (goInt (Nat.min sLen dLen)) (w.setCells g o src) := by
  have hl := run_loadCells_list (P := P) w a src hsrc
  have hst := run_storeCells_cells (P := P) g o src 0 w (fun j hj => by
        simpa using (blk_there hB o src.length hle j (by simpa using hj)).1) (fun j hj => by
        simpa using (blk_there hB o src.length hle j (by simpa using hj)).2) h1
  simp only [Nat.add_zero] at hst
  obtain ⟨hu, ⟨i, z, hi, _, hsz, _⟩, _⟩ := ht
  simp [Builtin.copy_, run_underlying hu, Builtin.lenOf, Builtin.firstCells, Go.sizeOf, typeInfo, hi, hsz, ← hsl, hl, hst]
/-- copy(s[o:], y), s of ours: all that y has goes over. -/
theorem Hs.cpS (k : Nat) (ht : ElemT P tS E size bytes) {g cap nl : Nat} {vs : List Value} (hk : m.hp[k]? = some (.s (some ⟨g, 0, none⟩) cap nl E size vs)) (o dLen dc sLen sc q ty : Nat) (hq : q = Nat.min sLen dLen) {b so : Nat} (src : List Value) (hsl : src.length = q * size) (hfit : o + q ≤ nl)
    (hs : semOf n β m = some (valS (Builtin.copy_ #[tS, tS] ty #[.slice (some ⟨g, 0 + o * size, none⟩) dLen dc, .slice (some ⟨b, so, none⟩) sLen sc]))) (hrd : (rdOf m).contains k = false)
    (hsrc : ∀ w, Mem w0 L β m.hp w → ∀ j v, src[j]? = some v → w.cell? ⟨b, so + j, none⟩ = some v) (h1 : ∀ v ∈ src, v.oneCell' = true)
    (h : Hs P f R n w0 L β (m.put (dstOf m) (.c (.v (goInt q))) (m.hp.set k (.s (some ⟨g, 0, none⟩) cap nl E size (splice vs (o * size) src))))) : Hs P f R n w0 L β m := by
  rw [Nat.zero_add] at hs
  refine Hs.opW hs fun w H W => ?_
  have hl : w.ownsRow 0 E size (.slice (some ⟨g, 0, none⟩) nl cap) nl vs := H.lies k _ hk
  obtain ⟨hv, ⟨h2, _⟩ | ⟨g', c', cur, e, hg, hh, hc, hm, hsz, htk⟩⟩ := hl
  · injection h2 with h2; cases h2
  injection e with e1 e2 e3
  injection e1 with e1
  injection e1 with e1
  subst e1; subst e3
  have hB : Blk w g E cur.toList := by
    show w.heap[g]? = _
    rw [hh]
  have hlen : cur.toList.length = cap * size := by rw [Array.length_toList, hsz]
  have hm1 : (o + q) * size = o * size + q * size := Nat.add_mul _ _ _
  have hm2 : (o + q) * size ≤ nl * size := Nat.mul_le_mul_right _ hfit
  have hm3 : nl * size ≤ cap * size := Nat.mul_le_mul_right _ hc
  have hrun := run_copyX (P := P) (ty := ty) (dc := dc) (sc := sc) ht (by rw [hsl, hq]) (fun j v hj => by rw [Addr.add_mid]; exact hsrc w H j v hj) hB (by omega : o * size + src.length ≤ _) h1
  rw [← hq] at hrun
  have hB' := blk_setCells src (o * size) w cur.toList hB (by omega)
  refine ⟨[], .c (.v (goInt q)), m.hp.set k (.s (some ⟨g, 0, none⟩) cap nl E size (splice vs (o * size) src)), _, hrun, ?_, ?_, fun j hj b hb => ?_, by rw [List.append_nil]; exact h⟩
  · rw [List.append_nil]
    refine H.reS k hk (only_setCells _ _ _) ⟨?_, .inr ⟨g, cap, (splice cur.toList (o * size) src).toArray, rfl, hg, hB', hc, hm, ?_, ?_⟩⟩
    · simp only [splice, List.length_append, List.length_take, List.length_drop]; omega
    · simp only [List.size_toArray, splice, List.length_append, List.length_take, List.length_drop]; omega
    · simp only [List.toList_toArray]
      rw [← htk]
      generalize nl * size = N at *
      generalize o * size = J at *
      generalize cap * size = C at *
      generalize cur.toList = cl at *
      unfold splice
      rw [List.take_take, Nat.min_eq_left (by omega), List.take_append, List.take_of_length_le (by rw [List.length_take]; omega), List.length_take, Nat.min_eq_left (by omega)]
      congr 1
      rw [List.take_append, List.take_of_length_le (by omega)]
      congr 1
      rw [List.drop_take]
      congr 1
      omega
  · simp only [SV.wf, SC.wf, Bool.true_and, Bool.and_eq_true, Nat.ble_eq, List.length_set]
    exact ⟨Nat.le_refl _, set_wf (SM.wf_hp W) rfl⟩
  · rw [List.getElem?_set, if_neg (fun e => by
      subst e
      simp at hrd
      exact hrd hj)]
    exact hb
/-- append(s[:i], make(T, q)...) where there is no room: a new row. -/
theorem Hs.growZ (ht : ElemT P tS E size bytes) {tn ty : Nat} (htn : P.underlying tn = some (.int .i64)) {g i cap q : Nat} (olds : List Value) (hol : olds.length = i * size) (hq : 0 < q) (hg : cap < i + q) (hm : i + q ≤ maxLen) (hb : (i + q) * bytes ≤ 140737488355328)
    (hs : semOf n β m = some (valS (Builtin.append_ #[tS, tn] ty #[.slice (some ⟨g, 0, none⟩) i cap, .int .i64 q]))) (hold : ∀ w, Mem w0 L β m.hp w → ∀ j v, olds[j]? = some v → w.cell? ⟨g, j, none⟩ = some v) (hrd : (rdOf m).all (fun k => Nat.blt k m.hp.length) = true)
    (h : ∀ g2 cap2 zs, zs.length = q * size → i + q ≤ cap2 → cap2 ≤ maxLen → Hs P f R n w0 L (β ++ [0]) (m.put (dstOf m) (.c (.v (.slice (some ⟨g2, 0, none⟩) (i + q) cap2))) (m.hp ++ [.s (some ⟨g2, 0, none⟩) cap2 (i + q) E size (olds ++ zs)]))) : Hs P f R n w0 L β m := by
  refine Hs.opW hs fun w H W => ?_
  obtain ⟨hu, ⟨i0, z, hi, hz, hsz, hby, hzs⟩, hpos⟩ := ht
  subst hsz
  subst hby
  have hf : (Builtin.firstCells i0.size i (.slice (some ⟨g, 0, none⟩) i cap)).run P w.drew = .ok olds.toArray w.drew := by
    have := run_loadCells_list (P := P) w.drew ⟨g, 0, none⟩ olds (fun j v hj => by
      rw [Addr.add_mid, Nat.zero_add]
      exact hold w H j v hj)
    simpa [Builtin.firstCells, hol] using this
  have h48 : q * i0.bytes ≤ (i + q) * i0.bytes := Nat.mul_le_mul_right _ (by omega)
  have hrun := Lib.run_append_grow_zeros (P := P) w tS tn ty E i0 z .i64 .i64 hu htn hi hz (some ⟨g, 0, none⟩) i cap olds hf q hq hpos hg (by unfold maxLen at hm; omega) (by omega) (growslice_fits (by omega) hb)
  have hge := grownCap_ge w (i + q) cap E
  have hcm : grownCap w (i + q) cap E ≤ maxLen := grownCap_le_maxLen w (i + q) cap E hm
  have hw := SM.wf_hp W
  have hzl : (Builtin.zeroCells z.cells q).toList.length = q * i0.size := by rw [zero_len, hzs]
  refine ⟨[0], .c (.v (.slice (some ⟨w.heap.size, 0, none⟩) (i + q) (grownCap w (i + q) cap E))), m.hp ++ [.s (some ⟨w.heap.size, 0, none⟩) (grownCap w (i + q) cap E) (i + q) E i0.size (olds ++ (Builtin.zeroCells z.cells q).toList)], _, hrun, ?_, ?_, fun k hk b hh => ?_, h w.heap.size _ _ hzl hge hcm⟩
  · refine H.push (h := .s _ _ _ _ _ _) (by rw [H.len]; exact hw) ?_ (fun y hy => ?_) ?_
    · exact ⟨rfl, rfl, rfl, by simp, fun k hk _ => heap_alloc_old _ _ hk⟩
    · simp only [HB.blk, Option.map_some, Option.some.injEq] at hy
      subst hy
      exact Nat.le_refl _
    · refine ⟨by rw [List.length_append, hol, hzl, Nat.add_mul], .inr ⟨w.heap.size, _, _, rfl, Nat.zero_le _, heap_alloc_new w.drew _, hge, hcm, ?_, ?_⟩⟩
      · simp only [Array.size_append, List.size_toArray, size_zeroCells, hzs, hol, ← Nat.add_mul]
        congr 1
        omega
      · simp only [Array.toList_append, List.append_assoc]
        rw [← List.append_assoc]
        exact List.take_left' (by rw [List.length_append, hol, hzl, Nat.add_mul])
  · simp only [SV.wf, SC.wf, Bool.true_and, Bool.and_eq_true, Nat.ble_eq, List.length_append, List.length_cons, List.length_nil, List.all_append, List.all_cons, List.all_nil, Bool.and_true]
    refine ⟨by omega, List.all_eq_true.2 fun y hy => ?_, rfl⟩
    have h1 := List.all_eq_true.1 hw y hy
    cases y with
    | no => rfl
    | s => rfl
    | q => rfl
    | r _ _ _ => rfl
    | b _ _ cs => exact List.all_eq_true.2 fun z hz => SC.wf_mono (by omega) (List.all_eq_true.1 h1 z hz)
  · rw [List.getElem?_append_left (List.getElem?_eq_some_iff.1 hh).1]; exact hh
/-- The one operation that may come. -/
theorem Hs.sel1 (i : Nat) (hc : rdyOf m = some [i]) (h : Hs P f R n w0 L β (selM i m)) : Hs P f R n w0 L β m :=
  Hs.branch [i] hc (by simp) fun k hk => by
    obtain rfl := List.mem_singleton.1 hk
    exact h
theorem Hs.takeSlo (j : Nat) (ht : ElemT P tS E size bytes) {rd : List Nat} {g off len cap i : Nat} (hi : i < cap) (hn : i ≤ len) (hs : semAt j n β m = some (valS (Instr.sliceAt tS (.slice (some ⟨g, off, none⟩) len cap) (some (.int .i64 i)) none none), rd)) (h : Hs P f R n w0 L β (takeM j (.c (.v (.slice (some ⟨g, off + i * size, none⟩) (len - i) (cap - i)))) m)) : Hs P f R n w0 L β m :=
  Hs.takeV j (.c (.v (.slice (some ⟨g, off + i * size, none⟩) (len - i) (cap - i)))) hs rfl (fun w _ => run_slo ht hi hn w) h
end
end Go.Proofs.YtmmcamkmglpgiaaGreatDoor
