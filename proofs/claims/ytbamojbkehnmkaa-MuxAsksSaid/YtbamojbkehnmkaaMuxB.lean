/- Layer 26: channels in new memory, one changed, those that are done taken out; for all channels; no condition. -/
import Derived.Test.YtbamojbkehnmkaaMuxA
import Derived.Test.YtbamojbkehnmkaaEngJ
namespace Go.Proofs.Ytbamojbkehnmkaa
set_option linter.all false
set_option maxRecDepth 100000
open Go.RowKit

theorem by_ch : Try.prog.bytesOf 45 ≤ 100 := of_decide_eq_true (by kernel_rfl)
/-- So few that memory bears them. -/
def Few (l : List CH) : Prop := l.length ≤ 1000000000000
theorem few_by {l : List CH} (h : Few l) : l.length * Try.prog.bytesOf 45 ≤ 140737488355328 := by
  have := by_ch
  unfold Few at h
  calc l.length * Try.prog.bytesOf 45 ≤ l.length * 100 := Nat.mul_le_mul_left _ this
    _ ≤ 140737488355328 := by omega
theorem few_len {l : List CH} (h : Few l) : l.length ≤ maxLen := by unfold Few at h; unfold maxLen; omega
/-- What comes back: channels in memory of the call's own. -/
def OwnR (l : List CH) (w : World) (v : Option Addr → Nat → Value) : Ending → World → Prop := fun e w' => ∃ A cap, e = .returned (v A cap) ∧ Only [] w w' ∧ OwnX CH.cells 45 12 w' w.heap.size (.slice A l.length cap) l
theorem cloneCh_any (l : List CH) (A : Option Addr) (cap n : Nat) (hl : l.length = n) (w : World) (hr : RdX CH.cells w A l) (hf : Few l) : Calls Try.prog 33 #[.slice A n cap] w (OwnR l w fun A cap => .slice A l.length cap) := by
  subst hl
  have hlen := few_len hf
  have hby := few_by hf
  cases A with
  | none =>
    have hl0 : l = [] := by
      cases l with
      | nil => rfl
      | cons a r => obtain ⟨b, off, e, _⟩ := hr (by simp); cases e
    subst hl0
    refine Hs.enter Try.func33 [] [] [] [.c (.v (.slice none 0 cap))] (Mem.start0 w) (by kernel_rfl) (by kernel_rfl) ?_
    refine Hs.run0 300 (fun _ => by kernel_rfl) ?_
    refine Hs.condT (by kernel_rfl) ?_
    refine Hs.run0 300 (fun _ => by kernel_rfl) ?_
    exact Hs.ret (v := .slice none 0 0) Try.func33 (by kernel_rfl) fun w' H => ⟨none, 0, rfl, H.only, ownX_nil⟩
  | some a =>
    refine Hs.enter Try.func33 [] [] [] [.c (.v (.slice (some a) l.length cap))] (Mem.start0 w) (by kernel_rfl) (by kernel_rfl) ?_
    refine Hs.run0 300 (fun _ => by kernel_rfl) ?_
    refine Hs.condF (by kernel_rfl) ?_
    refine Hs.run1 300 (fun _ => by kernel_rfl) fun b0 => ?_
    refine Hs.litX (ty := 32) (c := cap) 0 elemCh l l.length rfl ch_one ch_len (by kernel_rfl) (by kernel_rfl) (by kernel_rfl) (fun w' H => hr.only H.only) hlen hby fun A' cap' h1 h2 => ?_
    refine Hs.run0 300 (fun _ => by kernel_rfl) ?_
    exact Hs.ret (v := .slice A' l.length cap') Try.func33 (by kernel_rfl) fun w' H => ⟨A', cap', rfl, H.only, H.fresh 0 rfl (by kernel_rfl)⟩
theorem twin_any (x : MX) (w : World) (hx : x.ok w) (hf : Few x.l) : Calls Try.prog 24 #[x.val] w (OwnR x.l w fun A cap => MX.val ⟨A, cap, x.l, x.lim, x.dead⟩) := by
  refine Hs.enter Try.func24 [] [] [] [.g x.sc] (Mem.start0 w) (by kernel_rfl) (by kernel_rfl) ?_
  refine Hs.run2 300 (fun _ => by kernel_rfl) fun b0 b1 => ?_
  refine Hs.callS (cf := CH.cells) (E := 45) (size := 12) (fun A cap => .slice A x.l.length cap) x.l x.l.length rfl (fun w' H => (cloneCh_any x.l x.A x.cap _ rfl w' (hx.rd.only H.only) hf)) (by kernel_rfl) (by kernel_rfl) fun A cap h1 h2 => ?_
  refine Hs.run0 300 (fun _ => by kernel_rfl) ?_
  exact Hs.ret (v := MX.val ⟨A, cap, x.l, x.lim, x.dead⟩) Try.func24 (by kernel_rfl) fun w' H => ⟨A, cap, rfl, H.only, H.fresh 2 rfl (by kernel_rfl)⟩
/-- One changed. -/
def setL (c : CH) (l : List CH) : List CH := if ixI (locP c.loc) l < 0 then l else l.set (ixI (locP c.loc) l).toNat c
theorem setL_len (c : CH) (l : List CH) : (setL c l).length = l.length := by unfold setL; split <;> simp
theorem muxSet_any (x : MX) (c : CH) (w : World) (hx : x.ok w) (hf : Few x.l) : Calls Try.prog 18 #[x.val, c.val] w (OwnR (setL c x.l) w fun A cap => MX.val ⟨A, cap, setL c x.l, x.lim, x.dead⟩) := by
  refine Hs.enter Try.func18 [] [] [] [.g x.sc, .g c.sc] (Mem.start0 w) (by kernel_rfl) (by kernel_rfl) ?_
  refine Hs.run3 300 (fun _ => by kernel_rfl) fun b0 b1 b2 => ?_
  refine Hs.callS (cf := CH.cells) (E := 45) (size := 12) (fun A cap => MX.val ⟨A, cap, x.l, x.lim, x.dead⟩) x.l x.l.length rfl (fun w' H => twin_any x w' (hx.only H.only) hf) (by kernel_rfl) (by kernel_rfl) fun A cap h1 h2 => ?_
  refine Hs.run0 300 (fun _ => by kernel_rfl) ?_
  refine Hs.callV (fun w' H => find_any ⟨A, cap, x.l, x.lim, x.dead⟩ c.loc w' ⟨H.rdX 3 (A := A) (cap := cap) (E := 45) (size := 12) rfl (by kernel_rfl), h1, h2, hx.chs, hx.lim⟩) (by kernel_rfl) ?_
  refine Hs.run0 300 (fun _ => by kernel_rfl) ?_
  refine Hs.condP (ixI (locP c.loc) x.l ≥ 0) (by kernel_rfl) (fun h => ?_) (fun h => ?_)
  · obtain ⟨i, hi⟩ : ∃ i : Nat, ixI (locP c.loc) x.l = i := ⟨(ixI (locP c.loc) x.l).toNat, by omega⟩
    have hlt := (ixI_lo (locP c.loc) x.l).2
    rw [hi] at hlt
    have e : setL c x.l = x.l.set i c := by unfold setL; rw [if_neg (by omega), hi, Int.toNat_natCast]
    rw [e]
    refine Hs.someS (A := A) (cap := cap) (nl := x.l.length) (E := 45) (size := 12) (vs := x.l.flatMap CH.cells) 3 (by kernel_rfl) (by omega) fun g hA => ?_
    subst hA
    refine Hs.run0 300 (fun _ => by kernel_rfl) ?_
    refine Hs.slot 16 (.c (.v (.int .i64 i))) rfl ((by kernel_rfl : _ = Value.int .i64 (ixI (locP c.loc) x.l)).trans (congrArg (Value.int .i64) hi)) ?_
    refine Hs.idx (b := g) (off := 0) (c := cap) (len := x.l.length) (i := i) elemCh (by omega) (by kernel_rfl) ?_
    refine Hs.stx (E := 45) (g := g) (cap := cap) (E' := 45) 3 ch_len ch_one x.l x.l.length rfl i (by omega) c (v := c.val) rfl (by kernel_rfl) (by kernel_rfl) (by kernel_rfl) (by kernel_rfl) ?_
    refine Hs.run0 300 (fun _ => by kernel_rfl) ?_
    have hl := setL_len c x.l
    rw [e] at hl
    exact Hs.ret (v := .agg #[.slice (some ⟨g, 0, none⟩) x.l.length cap, .int .u32 x.lim, .bool x.dead]) Try.func18 (by kernel_rfl) fun w' H => ⟨some ⟨g, 0, none⟩, cap, by simp only [MX.val, hl], H.only, by rw [hl]; exact H.fresh 3 hl (by kernel_rfl)⟩
  · have e : setL c x.l = x.l := by unfold setL; rw [if_pos (by omega)]
    rw [e]
    refine Hs.run0 300 (fun _ => by kernel_rfl) ?_
    exact Hs.ret (v := MX.val ⟨A, cap, x.l, x.lim, x.dead⟩) Try.func18 (by kernel_rfl) fun w' H => ⟨A, cap, rfl, H.only, H.fresh 3 rfl (by kernel_rfl)⟩
/-- Those that are not done. -/
def doneP (c : CH) : Bool := c.sClose && c.gClose
def keepL (l : List CH) : List CH := l.filter fun c => !doneP c
theorem free1_any (c : CH) (w : World) : Calls Try.prog 29 #[c.val] w fun e w' => e = .returned (.bool (doneP c)) ∧ Only [] w w' := by
  obtain ⟨x0, x1, x2, x3, x4, x5, b1, b2, b3, b4, x6, b5⟩ := c
  refine Hs.enter Try.func29 [] [] [] [.g (CH.sc ⟨x0, x1, x2, x3, x4, x5, b1, b2, b3, b4, x6, b5⟩)] (Mem.start0 w) (by kernel_rfl) (by kernel_rfl) ?_
  refine Hs.run1 300 (fun _ => by kernel_rfl) fun b0 => ?_
  refine Hs.bool 5 b2 (by kernel_rfl) (fun h => ?_) (fun h => ?_) <;> subst h
  · refine Hs.rung0 [2] 300 (fun _ => by kernel_rfl) ?_
    exact Hs.ret (v := .bool b4) Try.func29 (by kernel_rfl) fun w' H => ⟨by simp [doneP], H.only⟩
  · refine Hs.rung0 [2] 300 (fun _ => by kernel_rfl) ?_
    exact Hs.ret (v := .bool false) Try.func29 (by kernel_rfl) fun w' H => ⟨by simp [doneP], H.only⟩
theorem filter_none {α : Type} {p : α → Bool} {l : List α} (h : ixI p l = -1) : l.filter (fun c => !p c) = l := by
  rw [List.filter_eq_self]
  intro x hx
  cases hp : p x with
  | false => rfl
  | true =>
    have := (ixI_any (p := p) (l := l)).2 (List.any_eq_true.2 ⟨x, hx, hp⟩)
    omega
theorem zch : ∀ i z, Try.prog.info? 45 = some i → i.zero = some z → ∀ u ∈ z.cells.toList, u.oneCell' = true := fun i z h1 h2 => by
  have e : (Try.prog.info? 45).bind (fun i => i.zero) = some (CH.val CH.zero) := by kernel_rfl
  rw [h1] at e
  simp only [Option.bind_some, h2, Option.some.injEq] at e
  subst e
  intro u hu
  exact ch_one CH.zero u (by simpa [CH.val, CH.cells, Value.cells] using hu)
theorem take_set_lt {α : Type} (l : List α) (i : Nat) (x : α) (h : i < l.length) : (l.set i x).take (i + 1) = l.take i ++ [x] := by
  rw [List.take_add_one, List.take_set_of_le (Nat.le_refl i)]
  simp [List.getElem?_set, h]
set_option maxHeartbeats 1000000 in
theorem delCh_any (l : List CH) (A : Option Addr) (cap n : Nat) (hl : l.length = n) (w : World) (hO : OwnX CH.cells 45 12 w 0 (.slice A n cap) l) : Calls Try.prog 28 #[.slice A n cap, .func (.func 29) #[] #[]] w fun e w' => ∃ A' cap', e = .returned (.slice A' (keepL l).length cap') ∧ Only (Value.ownBlock (.slice A n cap)).toList w w' ∧ OwnX CH.cells 45 12 w' 0 (.slice A' (keepL l).length cap') (keepL l) ∧ WhereG (.slice A n cap) (.slice A' (keepL l).length cap') w.heap.size := by
  subst hl
  obtain ⟨_, _, e0, hc1, hc2, _, _⟩ := hO.form
  injection e0 with e1 e2 e3
  subst e3; subst e1
  clear e2
  refine Hs.enter Try.func28 (Value.ownBlock (.slice A l.length cap)).toList [0] [.s A cap l.length 45 12 (l.flatMap CH.cells)] [.c (.v (.slice A l.length cap)), .c (.v (.func (.func 29) #[] #[]))] (Mem.startS w hO) (by kernel_rfl) (by kernel_rfl) ?_
  refine Hs.run0 300 (fun _ => by kernel_rfl) ?_
  refine Hs.callV (fun w' H => index_free1 doneP l A cap _ rfl w' (H.rdX 0 (cap := cap) (E := 45) (size := 12) rfl (by kernel_rfl)) (Nat.le_trans hc1 hc2) fun c w2 O2 => free1_any c w2) (by kernel_rfl) ?_
  refine Hs.run0 300 (fun _ => by kernel_rfl) ?_
  refine Hs.cond (ixI doneP l == -1) (by kernel_rfl) (fun h => ?_) (fun h => ?_)
  · have h : ixI doneP l = -1 := by simpa using h
    have e : keepL l = l := filter_none h
    rw [e]
    refine Hs.run0 300 (fun _ => by kernel_rfl) ?_
    exact Hs.ret (v := .slice A l.length cap) Try.func28 (by kernel_rfl) fun w' H => ⟨A, cap, rfl, H.only, H.ownX 0 rfl (by kernel_rfl), WhereG.same⟩
  have h : ¬ ixI doneP l = -1 := by simpa using h
  have hlo := ixI_lo doneP l
  obtain ⟨x0, hx1, hx2, hx3⟩ := ixI_get (p := doneP) (l := l) (by omega)
  obtain ⟨i0, hi⟩ : ∃ i : Nat, ixI doneP l = i := ⟨(ixI doneP l).toNat, by omega⟩
  rw [hi, Int.toNat_natCast] at hx1 hx3
  rw [hi] at hlo
  refine Hs.someS (A := A) (cap := cap) (nl := l.length) (E := 45) (size := 12) (vs := l.flatMap CH.cells) 0 (by kernel_rfl) (by omega) fun g hA => ?_
  subst hA
  have J : ∀ (d j : Nat), l.length - j = d → j ≤ l.length → ∀ (i : Nat) (cur : List CH), i < j → cur.length = l.length → cur.take i = keepL (l.take j) → cur.drop j = l.drop j → ∀ (s : Nat → Value), Hs Try.prog 28 (fun e w' => ∃ A' cap', e = .returned (.slice A' (keepL l).length cap') ∧ Only (Value.ownBlock (.slice (some ⟨g, 0, none⟩) l.length cap)).toList w w' ∧ OwnX CH.cells 45 12 w' 0 (.slice A' (keepL l).length cap') (keepL l) ∧ WhereG (.slice (some ⟨g, 0, none⟩) l.length cap) (.slice A' (keepL l).length cap') w.heap.size) (Try.f28).ntmps w (Value.ownBlock (.slice (some ⟨g, 0, none⟩) l.length cap)).toList [0] ⟨.no, loopAt Try.f28 0, pins [(0, .c (.v (.slice (some ⟨g, 0, none⟩) l.length cap))), (1, .c (.v (.func (.func 29) #[] #[]))), (5, .c (.v (.int .i64 (i : Nat)))), (6, .c (.v (.int .i64 (j : Nat))))] (.vals s), [.s (some ⟨g, 0, none⟩) cap l.length 45 12 (cur.flatMap CH.cells)]⟩ := by
    intro d
    induction d with
    | zero =>
      intro j hd hj i cur hij hcur ht hdr s
      obtain rfl : j = l.length := by omega
      rw [List.take_length] at ht
      have hfl : (keepL l).length = i := by rw [← ht, List.length_take]; omega
      rw [hfl]
      refine Hs.run0 300 (fun _ => by kernel_rfl) ?_
      refine Hs.condP ((l.length : Int) < (l.length : Int)) (by kernel_rfl) (fun h => by omega) (fun h => ?_)
      refine Hs.run0 300 (fun _ => by kernel_rfl) ?_
      refine Hs.slo (g := g) (off := 0) (len := l.length) (cap := cap) (i := i) elemCh (by omega) (by omega) (by kernel_rfl) ?_
      refine Hs.run0 300 (fun _ => by kernel_rfl) ?_
      refine Hs.clr (g := g) (cap := cap) (c := cap - i) (ty := 0) 0 elemCh ch_len zch cur l.length i hcur hij (by kernel_rfl) (by kernel_rfl) (by kernel_rfl) ?_
      refine Hs.run0 300 (fun _ => by kernel_rfl) ?_
      refine Hs.shi (g := g) (off := 0) (len := l.length) (cap := cap) (i := i) elemCh (by omega) (by kernel_rfl) ?_
      refine Hs.run0 300 (fun _ => by kernel_rfl) ?_
      exact Hs.ret (v := .slice (some ⟨g, 0, none⟩) i cap) Try.func28 (by kernel_rfl) fun w' H => ⟨some ⟨g, 0, none⟩, cap, rfl, H.only, by rw [← ht]; exact H.ownX 0 (by rw [List.length_take]; omega) (by kernel_rfl), WhereG.same⟩
    | succ d ih =>
      intro j hd hj i cur hij hcur ht hdr s
      have hjl : j < l.length := by omega
      obtain ⟨x, hx⟩ : ∃ x, l[j]? = some x := ⟨_, List.getElem?_eq_getElem hjl⟩
      have hcx : cur[j]? = some x := by
        have : (cur.drop j)[0]? = (l.drop j)[0]? := by rw [hdr]
        simpa [hx] using this
      have htk : l.take (j + 1) = l.take j ++ [x] := by rw [List.take_add_one, hx]; rfl
      refine Hs.run0 300 (fun _ => by kernel_rfl) ?_
      refine Hs.condP ((j : Int) < (l.length : Int)) (by kernel_rfl) (fun h => ?_) (fun h => by omega)
      refine Hs.run0 300 (fun _ => by kernel_rfl) ?_
      refine Hs.idx (b := g) (off := 0) (c := cap) elemCh hjl (by kernel_rfl) ?_
      refine Hs.ldx (E := 45) (b := g) (off := 0) (i := j) ch_len (.g x.sc) (by kernel_rfl) (fun w' H => H.rdX 0 (cap := cap) (E := 45) (size := 12) hcur (by kernel_rfl)) hcx (by kernel_rfl) (by kernel_rfl) (by kernel_rfl) (by kernel_rfl) ?_
      refine Hs.run1 300 (fun _ => by kernel_rfl) fun b1 => ?_
      refine Hs.callV (fun w' H => free1_any x w') (by kernel_rfl) ?_
      refine Hs.run0 300 (fun _ => by kernel_rfl) ?_
      refine Hs.cond (!doneP x) (by kernel_rfl) (fun hp => ?_) (fun hp => ?_)
      · have hi1 : i < cur.length := by omega
        refine Hs.run0 300 (fun _ => by kernel_rfl) ?_
        refine Hs.idx (b := g) (off := 0) (c := cap) (len := l.length) (i := i) elemCh (by omega) (by kernel_rfl) ?_
        refine Hs.stx (E := 45) (g := g) (cap := cap) (E' := 45) 0 ch_len ch_one cur l.length hcur i (by omega) x (v := x.val) rfl (by kernel_rfl) (by kernel_rfl) (by kernel_rfl) (by kernel_rfl) ?_
        refine Hs.run0 300 (fun _ => by kernel_rfl) ?_
        refine Hs.slot 5 (.c (.v (.int .i64 (i + 1 : Nat)))) rfl ((by kernel_rfl : _ = Value.int .i64 (IntKind.i64.wrap ((i : Int) + 1))).trans (wrap_nextI (n := l.length) (Nat.le_trans hc1 hc2) (by omega))) ?_
        refine Hs.slot 6 (.c (.v (.int .i64 (j + 1 : Nat)))) rfl ((by kernel_rfl : _ = Value.int .i64 (IntKind.i64.wrap ((j : Int) + 1))).trans (wrap_nextI (Nat.le_trans hc1 hc2))) ?_
        refine Hs.loop (by kernel_rfl) ?_
        exact Hs.goto (loopAt Try.f28 0) [0] [.s (some ⟨g, 0, none⟩) cap l.length 45 12 ((cur.set i x).flatMap CH.cells)] [(0, .c (.v (.slice (some ⟨g, 0, none⟩) l.length cap))), (1, .c (.v (.func (.func 29) #[] #[]))), (5, .c (.v (.int .i64 (i + 1 : Nat)))), (6, .c (.v (.int .i64 (j + 1 : Nat))))] (by kernel_rfl) (by decide) (by kernel_rfl) (by kernel_rfl) (fun _ => (by kernel_rfl)) (fun u => ih (j + 1) (by omega) (by omega) (i + 1) (cur.set i x) (by omega) (by simpa using hcur) (by
          rw [take_set_lt cur i x hi1, ht, htk]
          simp [keepL, List.filter_append, hp]) (by
          rw [List.drop_set_of_lt (by omega), ← List.drop_drop, hdr, List.drop_drop]) u)
      · have hp : doneP x = true := by simpa using hp
        refine Hs.run0 300 (fun _ => by kernel_rfl) ?_
        refine Hs.slot 6 (.c (.v (.int .i64 (j + 1 : Nat)))) rfl ((by kernel_rfl : _ = Value.int .i64 (IntKind.i64.wrap ((j : Int) + 1))).trans (wrap_nextI (Nat.le_trans hc1 hc2))) ?_
        refine Hs.loop (by kernel_rfl) ?_
        exact Hs.goto (loopAt Try.f28 0) [0] [.s (some ⟨g, 0, none⟩) cap l.length 45 12 (cur.flatMap CH.cells)] [(0, .c (.v (.slice (some ⟨g, 0, none⟩) l.length cap))), (1, .c (.v (.func (.func 29) #[] #[]))), (5, .c (.v (.int .i64 (i : Nat)))), (6, .c (.v (.int .i64 (j + 1 : Nat))))] (by kernel_rfl) (by decide) (by kernel_rfl) (by kernel_rfl) (fun _ => (by kernel_rfl)) (fun u => ih (j + 1) (by omega) (by omega) i cur (by omega) hcur (by
          rw [ht, htk]
          simp [keepL, List.filter_append, hp]) (by
          rw [← List.drop_drop, hdr, List.drop_drop]) u)
  refine Hs.run0 300 (fun _ => by kernel_rfl) ?_
  refine Hs.slot 5 (.c (.v (.int .i64 (i0 : Nat)))) rfl ((by kernel_rfl : _ = Value.int .i64 (ixI doneP l)).trans (congrArg (Value.int .i64) hi)) ?_
  refine Hs.slot 6 (.c (.v (.int .i64 (i0 + 1 : Nat)))) rfl ((by kernel_rfl : _ = Value.int .i64 (IntKind.i64.wrap (ixI doneP l + 1))).trans (by rw [hi]; exact wrap_nextI (n := l.length) (Nat.le_trans hc1 hc2) (by omega))) ?_
  refine Hs.loop (by kernel_rfl) ?_
  exact Hs.goto (loopAt Try.f28 0) [0] [.s (some ⟨g, 0, none⟩) cap l.length 45 12 (l.flatMap CH.cells)] [(0, .c (.v (.slice (some ⟨g, 0, none⟩) l.length cap))), (1, .c (.v (.func (.func 29) #[] #[]))), (5, .c (.v (.int .i64 (i0 : Nat)))), (6, .c (.v (.int .i64 (i0 + 1 : Nat))))] (by kernel_rfl) (by decide) (by kernel_rfl) (by kernel_rfl) (fun _ => (by kernel_rfl)) (fun u => J _ (i0 + 1) rfl (by omega) i0 l (by omega) rfl (by
    rw [List.take_add_one, hx1]
    have : ∀ x ∈ l.take i0, doneP x = false := fun x hx => by
      obtain ⟨j, hj1, hj2⟩ := List.mem_iff_getElem.1 hx
      rw [List.length_take] at hj1
      rw [List.getElem_take] at hj2
      exact hx3 j x (by omega) (by rw [List.getElem?_eq_getElem (by omega), hj2])
    simp only [keepL, List.filter_append, Option.toList_some, List.filter_cons, hx2, Bool.not_true, List.filter_nil]
    rw [List.filter_eq_self.2 fun x hx => by rw [this x hx]; rfl]
    simp) rfl u)
theorem muxFree_any (x : MX) (w : World) (hx : x.ok w) (hf : Few x.l) : Calls Try.prog 11 #[x.val] w (OwnR (keepL x.l) w fun A cap => MX.val ⟨A, cap, keepL x.l, x.lim, x.dead⟩) := by
  refine Hs.enter Try.func11 [] [] [] [.g x.sc] (Mem.start0 w) (by kernel_rfl) (by kernel_rfl) ?_
  refine Hs.run2 300 (fun _ => by kernel_rfl) fun b0 b1 => ?_
  refine Hs.callS (cf := CH.cells) (E := 45) (size := 12) (fun A cap => MX.val ⟨A, cap, x.l, x.lim, x.dead⟩) x.l x.l.length rfl (fun w' H => twin_any x w' (hx.only H.only) hf) (by kernel_rfl) (by kernel_rfl) fun A cap h1 h2 => ?_
  refine Hs.run0 300 (fun _ => by kernel_rfl) ?_
  refine Hs.callO (cf := CH.cells) (E := 45) (size := 12) (A := A) (cap := cap) 2 x.l (keepL x.l) x.l.length (keepL x.l).length rfl rfl (by kernel_rfl) (fun w' H hO => delCh_any x.l A cap _ rfl w' hO) (by kernel_rfl) (by kernel_rfl) fun A' cap' h3 h4 => ?_
  refine Hs.run0 300 (fun _ => by kernel_rfl) ?_
  exact Hs.ret (v := MX.val ⟨A', cap', keepL x.l, x.lim, x.dead⟩) Try.func11 (by kernel_rfl) fun w' H => ⟨A', cap', rfl, H.only, H.fresh 2 rfl (by kernel_rfl)⟩
end Go.Proofs.Ytbamojbkehnmkaa
