/- Layer 26: faults, messages compared; for all channels; no condition. -/
import Derived.Test.YtbamojbkehnmkaaMuxS
namespace Go.Proofs.Ytbamojbkehnmkaa
set_option linter.all false
set_option maxRecDepth 100000
open Go.RowKit

/-- A message without its places. -/
structure PM where
  kind : Int
  chan : Int
  sender : Int
  window : Int
  packet : Int
  code : Int
  name : ByteArray
  lang : ByteArray
  want : Bool
  data : List Int
def MD.plain (m : MD) : PM := ⟨m.kind, m.chan, m.sender, m.window, m.packet, m.code, m.name, m.lang, m.want, m.data⟩
set_option maxHeartbeats 1000000 in
theorem bytes01_true (A B : Option Addr) (ca cb : Nat) (l : List Int) (w : World) (ha : RdX u8c w A l) (hb : RdX u8c w B l) (hlen : l.length ≤ maxLen) : Calls Try.prog 45 #[.slice A l.length ca, .slice B l.length cb] w fun e w' => e = .returned (.bool true) ∧ Only [] w w' := by
  refine Hs.enter Try.func45 [] [] [] [.c (.v (.slice A l.length ca)), .c (.v (.slice B l.length cb))] (Mem.start0 w) (by kernel_rfl) (by kernel_rfl) ?_
  have J : ∀ (d i : Nat), l.length - i = d → i ≤ l.length → ∀ (u : Nat → Value), Hs Try.prog 45 (fun e w' => e = .returned (.bool true) ∧ Only [] w w') (Try.f45).ntmps w [] [] ⟨.no, loopAt Try.f45 0, pins [(0, .c (.v (.slice A l.length ca))), (1, .c (.v (.slice B l.length cb))), (12, .c (.v (.int .i64 l.length))), (13, .c (.v (.int .i64 (i : Nat))))] (.vals u), []⟩ := by
    intro d
    induction d with
    | zero =>
      intro i hd hi u
      refine Hs.run0 300 (fun _ => by kernel_rfl) ?_
      refine Hs.condP ((i : Int) < (l.length : Int)) (by kernel_rfl) (fun h => by omega) (fun h => ?_)
      refine Hs.run0 300 (fun _ => by kernel_rfl) ?_
      exact Hs.ret (v := .bool true) Try.func45 (by kernel_rfl) fun w' H => ⟨rfl, H.only⟩
    | succ d ih =>
      intro i hd hi u
      have hil : i < l.length := by omega
      obtain ⟨x, hx⟩ : ∃ x, l[i]? = some x := ⟨_, List.getElem?_eq_getElem hil⟩
      obtain ⟨ab, aoff, hA, _, _⟩ := ha (by omega)
      obtain ⟨bb, boff, hB, _, _⟩ := hb (by omega)
      subst hA; subst hB
      have c1 := fun w' (O : Only [] w w') => rdX_cell (size := 1) (fun _ => rfl) (ha.only O) hx (j := 0) rfl
      have c2 := fun w' (O : Only [] w w') => rdX_cell (size := 1) (fun _ => rfl) (hb.only O) hx (j := 0) rfl
      refine Hs.run0 300 (fun _ => by kernel_rfl) ?_
      refine Hs.condP ((i : Int) < (l.length : Int)) (by kernel_rfl) (fun h => ?_) (fun h => by omega)
      refine Hs.run0 300 (fun _ => by kernel_rfl) ?_
      refine Hs.any [] (by kernel_rfl) ?_
      refine Hs.run0 300 (fun _ => by kernel_rfl) ?_
      refine Hs.takeIdx (rd := []) 2 elemB (b := ab) (off := aoff) (c := ca) (len := l.length) (i := i) hil (by kernel_rfl) ?_
      refine Hs.takeIdx (rd := []) 6 elemB (b := bb) (off := boff) (c := cb) (len := l.length) (i := i) hil (by kernel_rfl) ?_
      refine Hs.branch2 3 7 (by kernel_rfl) ?_ ?_
      · refine Hs.ldc (E' := 5) (b := ab) (off := aoff + i * 1) (.int .u8 x) (by kernel_rfl) (fun w' H => c1 w' H.only) (by kernel_rfl) ?_
        refine Hs.run0 300 (fun _ => by kernel_rfl) ?_
        refine Hs.ldc (E' := 5) (b := bb) (off := boff + i * 1) (.int .u8 x) (by kernel_rfl) (fun w' H => c2 w' H.only) (by kernel_rfl) ?_
        refine Hs.run0 300 (fun _ => by kernel_rfl) ?_
        refine Hs.cond (x != x) (by kernel_rfl) (fun h => by simp at h) (fun _ => ?_)
        refine Hs.run0 300 (fun _ => by kernel_rfl) ?_
        refine Hs.slot 13 (.c (.v (.int .i64 (i + 1 : Nat)))) rfl ((by kernel_rfl : _ = Value.int .i64 (IntKind.i64.wrap ((i : Int) + 1))).trans (wrap_nextI hlen)) ?_
        refine Hs.loop (by kernel_rfl) ?_
        exact Hs.goto (loopAt Try.f45 0) [] [] [(0, .c (.v (.slice (some ⟨ab, aoff, none⟩) l.length ca))), (1, .c (.v (.slice (some ⟨bb, boff, none⟩) l.length cb))), (12, .c (.v (.int .i64 l.length))), (13, .c (.v (.int .i64 (i + 1 : Nat))))] (by kernel_rfl) (by decide) (by kernel_rfl) (by kernel_rfl) (fun _ => (by kernel_rfl)) (fun u => ih (i + 1) (by omega) (by omega) u)
      · refine Hs.ldc (E' := 5) (b := bb) (off := boff + i * 1) (.int .u8 x) (by kernel_rfl) (fun w' H => c2 w' H.only) (by kernel_rfl) ?_
        refine Hs.run0 300 (fun _ => by kernel_rfl) ?_
        refine Hs.ldc (E' := 5) (b := ab) (off := aoff + i * 1) (.int .u8 x) (by kernel_rfl) (fun w' H => c1 w' H.only) (by kernel_rfl) ?_
        refine Hs.run0 300 (fun _ => by kernel_rfl) ?_
        refine Hs.cond (x != x) (by kernel_rfl) (fun h => by simp at h) (fun _ => ?_)
        refine Hs.run0 300 (fun _ => by kernel_rfl) ?_
        refine Hs.slot 13 (.c (.v (.int .i64 (i + 1 : Nat)))) rfl ((by kernel_rfl : _ = Value.int .i64 (IntKind.i64.wrap ((i : Int) + 1))).trans (wrap_nextI hlen)) ?_
        refine Hs.loop (by kernel_rfl) ?_
        exact Hs.goto (loopAt Try.f45 0) [] [] [(0, .c (.v (.slice (some ⟨ab, aoff, none⟩) l.length ca))), (1, .c (.v (.slice (some ⟨bb, boff, none⟩) l.length cb))), (12, .c (.v (.int .i64 l.length))), (13, .c (.v (.int .i64 (i + 1 : Nat))))] (by kernel_rfl) (by decide) (by kernel_rfl) (by kernel_rfl) (fun _ => (by kernel_rfl)) (fun u => ih (i + 1) (by omega) (by omega) u)
  refine Hs.run0 300 (fun _ => by kernel_rfl) ?_
  refine Hs.cond ((l.length : Int) != (l.length : Int)) (by kernel_rfl) (fun h => by simp at h) (fun _ => ?_)
  refine Hs.run0 300 (fun _ => by kernel_rfl) ?_
  refine Hs.loop (by kernel_rfl) ?_
  exact Hs.goto (loopAt Try.f45 0) [] [] [(0, .c (.v (.slice A l.length ca))), (1, .c (.v (.slice B l.length cb))), (12, .c (.v (.int .i64 l.length))), (13, .c (.v (.int .i64 (0 : Nat))))] (by kernel_rfl) (by decide) (by kernel_rfl) (by kernel_rfl) (fun _ => (by kernel_rfl)) (fun u => J _ 0 rfl (by omega) u)
set_option maxHeartbeats 1000000 in
theorem rSame03_true (a b : MD) (h : a.plain = b.plain) (w : World) (ha : RdX u8c w a.dA a.data) (hb : RdX u8c w b.dA b.data) (hlen : a.data.length ≤ maxLen) : Calls Try.prog 32 #[a.val, b.val] w fun e w' => e = .returned (.bool true) ∧ Only [] w w' := by
  obtain ⟨k, c1, c2, c3, c4, c5, nm1, lg1, wa, dA, dc, dd⟩ := a
  obtain ⟨k', c1', c2', c3', c4', c5', nm1', lg1', wa', dA', dc', dd'⟩ := b
  simp only [MD.plain, PM.mk.injEq] at h
  obtain ⟨rfl, rfl, rfl, rfl, rfl, rfl, rfl, rfl, rfl, rfl⟩ := h
  dsimp only at ha hb hlen
  refine Hs.enter Try.func32 [] [] [] [.g (MD.sc ⟨k, c1, c2, c3, c4, c5, nm1, lg1, wa, dA, dc, dd⟩), .g (MD.sc ⟨k, c1, c2, c3, c4, c5, nm1, lg1, wa, dA', dc', dd⟩)] (Mem.start0 w) (by kernel_rfl) (by kernel_rfl) ?_
  refine Hs.run2 300 (fun _ => by kernel_rfl) fun b0 b1 => ?_
  refine Hs.bool 10 (k == k) (by kernel_rfl) (fun _ => ?_) (fun h => by simp at h)
  refine Hs.rung0 [5] 300 (fun _ => (by kernel_rfl)) ?_
  refine Hs.bool 17 (c1 == c1) (by kernel_rfl) (fun _ => ?_) (fun h => by simp at h)
  refine Hs.rung0 [12] 300 (fun _ => (by kernel_rfl)) ?_
  refine Hs.bool 24 (c2 == c2) (by kernel_rfl) (fun _ => ?_) (fun h => by simp at h)
  refine Hs.rung0 [19] 300 (fun _ => (by kernel_rfl)) ?_
  refine Hs.bool 31 (c3 == c3) (by kernel_rfl) (fun _ => ?_) (fun h => by simp at h)
  refine Hs.rung0 [26] 300 (fun _ => (by kernel_rfl)) ?_
  refine Hs.bool 38 (c4 == c4) (by kernel_rfl) (fun _ => ?_) (fun h => by simp at h)
  refine Hs.rung0 [33] 300 (fun _ => (by kernel_rfl)) ?_
  refine Hs.bool 45 (c5 == c5) (by kernel_rfl) (fun _ => ?_) (fun h => by simp at h)
  refine Hs.rung0 [40] 300 (fun _ => (by kernel_rfl)) ?_
  refine Hs.bool 52 (nm1.toList == nm1.toList) (by kernel_rfl) (fun _ => ?_) (fun h => by simp at h)
  refine Hs.rung0 [47] 300 (fun _ => (by kernel_rfl)) ?_
  refine Hs.bool 59 (lg1.toList == lg1.toList) (by kernel_rfl) (fun _ => ?_) (fun h => by simp at h)
  refine Hs.rung0 [54] 300 (fun _ => (by kernel_rfl)) ?_
  refine Hs.bool 66 (wa == wa) (by kernel_rfl) (fun _ => ?_) (fun h => by simp at h)
  refine Hs.rung0 [61] 300 (fun _ => (by kernel_rfl)) ?_
  refine Hs.callV (fun w' H => bytes01_true dA dA' dc dc' dd w' (ha.only H.only) (hb.only H.only) hlen) (by kernel_rfl) ?_
  refine Hs.rung0 [61] 300 (fun _ => (by kernel_rfl)) ?_
  exact Hs.ret (v := .bool true) Try.func32 (by kernel_rfl) fun w' H => ⟨rfl, H.only⟩
set_option maxHeartbeats 1000000 in
theorem msgs26_true (A B : Option Addr) (ca cb : Nat) (l k : List MD) (w : World) (ha : RdX MD.row w A l) (hb : RdX MD.row w B k) (hp : l.map MD.plain = k.map MD.plain) (hda : ∀ o ∈ l, RdX u8c w o.dA o.data) (hdb : ∀ o ∈ k, RdX u8c w o.dA o.data) (hln : ∀ o ∈ l, o.data.length ≤ maxLen) (hlen : l.length ≤ maxLen) : Calls Try.prog 22 #[.slice A l.length ca, .slice B k.length cb] w fun e w' => e = .returned (.bool true) ∧ Only [] w w' := by
  have hkl : k.length = l.length := by simpa using (congrArg List.length hp).symm
  rw [hkl]
  refine Hs.enter Try.func22 [] [] [] [.c (.v (.slice A l.length ca)), .c (.v (.slice B l.length cb))] (Mem.start0 w) (by kernel_rfl) (by kernel_rfl) ?_
  have J : ∀ (d i : Nat), l.length - i = d → i ≤ l.length → ∀ (u : Nat → Value), Hs Try.prog 22 (fun e w' => e = .returned (.bool true) ∧ Only [] w w') (Try.f22).ntmps w [] [] ⟨.no, loopAt Try.f22 0, pins [(0, .c (.v (.slice A l.length ca))), (1, .c (.v (.slice B l.length cb))), (12, .c (.v (.int .i64 l.length))), (13, .c (.v (.int .i64 (i : Nat))))] (.vals u), []⟩ := by
    intro d
    induction d with
    | zero =>
      intro i hd hi u
      refine Hs.run0 300 (fun _ => by kernel_rfl) ?_
      refine Hs.condP ((i : Int) < (l.length : Int)) (by kernel_rfl) (fun h => by omega) (fun h => ?_)
      refine Hs.run0 300 (fun _ => by kernel_rfl) ?_
      exact Hs.ret (v := .bool true) Try.func22 (by kernel_rfl) fun w' H => ⟨rfl, H.only⟩
    | succ d ih =>
      intro i hd hi u
      have hil : i < l.length := by omega
      obtain ⟨x, hx⟩ : ∃ x, l[i]? = some x := ⟨_, List.getElem?_eq_getElem hil⟩
      obtain ⟨y, hy⟩ : ∃ y, k[i]? = some y := ⟨_, List.getElem?_eq_getElem (by omega)⟩
      have hxy : x.plain = y.plain := by
        have := congrArg (·[i]?) hp
        simpa [hx, hy] using this
      obtain ⟨ab, aoff, hA, _, _⟩ := ha (by omega)
      obtain ⟨bb, boff, hB, _, _⟩ := hb (by omega)
      subst hA; subst hB
      refine Hs.run0 300 (fun _ => by kernel_rfl) ?_
      refine Hs.condP ((i : Int) < (l.length : Int)) (by kernel_rfl) (fun h => ?_) (fun h => by omega)
      refine Hs.run0 300 (fun _ => by kernel_rfl) ?_
      refine Hs.any [] (by kernel_rfl) ?_
      refine Hs.run0 300 (fun _ => by kernel_rfl) ?_
      refine Hs.takeIdx (rd := []) 2 elemMs (b := ab) (off := aoff) (c := ca) (len := l.length) (i := i) hil (by kernel_rfl) ?_
      refine Hs.takeIdx (rd := []) 6 elemMs (b := bb) (off := boff) (c := cb) (len := l.length) (i := i) hil (by kernel_rfl) ?_
      refine Hs.branch2 3 7 (by kernel_rfl) ?_ ?_
      · refine Hs.ldx (E := 28) (b := ab) (off := aoff) (i := i) mdr_len (.g x.sc) (by kernel_rfl) (fun w' H => ha.only H.only) hx (by kernel_rfl) (by kernel_rfl) (by kernel_rfl) (by kernel_rfl) ?_
        refine Hs.run0 300 (fun _ => by kernel_rfl) ?_
        refine Hs.ldx (E := 28) (b := bb) (off := boff) (i := i) mdr_len (.g y.sc) (by kernel_rfl) (fun w' H => hb.only H.only) hy (by kernel_rfl) (by kernel_rfl) (by kernel_rfl) (by kernel_rfl) ?_
        refine Hs.run0 300 (fun _ => by kernel_rfl) ?_
        refine Hs.callV (fun w' H => rSame03_true x y hxy w' ((hda x (List.mem_of_getElem? hx)).only H.only) ((hdb y (List.mem_of_getElem? hy)).only H.only) (hln x (List.mem_of_getElem? hx))) (by kernel_rfl) ?_
        refine Hs.run0 300 (fun _ => by kernel_rfl) ?_
        refine Hs.condF (by kernel_rfl) ?_
        refine Hs.run0 300 (fun _ => by kernel_rfl) ?_
        refine Hs.slot 13 (.c (.v (.int .i64 (i + 1 : Nat)))) rfl ((by kernel_rfl : _ = Value.int .i64 (IntKind.i64.wrap ((i : Int) + 1))).trans (wrap_nextI hlen)) ?_
        refine Hs.loop (by kernel_rfl) ?_
        exact Hs.goto (loopAt Try.f22 0) [] [] [(0, .c (.v (.slice (some ⟨ab, aoff, none⟩) l.length ca))), (1, .c (.v (.slice (some ⟨bb, boff, none⟩) l.length cb))), (12, .c (.v (.int .i64 l.length))), (13, .c (.v (.int .i64 (i + 1 : Nat))))] (by kernel_rfl) (by decide) (by kernel_rfl) (by kernel_rfl) (fun _ => (by kernel_rfl)) (fun u => ih (i + 1) (by omega) (by omega) u)
      · refine Hs.ldx (E := 28) (b := bb) (off := boff) (i := i) mdr_len (.g y.sc) (by kernel_rfl) (fun w' H => hb.only H.only) hy (by kernel_rfl) (by kernel_rfl) (by kernel_rfl) (by kernel_rfl) ?_
        refine Hs.run0 300 (fun _ => by kernel_rfl) ?_
        refine Hs.ldx (E := 28) (b := ab) (off := aoff) (i := i) mdr_len (.g x.sc) (by kernel_rfl) (fun w' H => ha.only H.only) hx (by kernel_rfl) (by kernel_rfl) (by kernel_rfl) (by kernel_rfl) ?_
        refine Hs.run0 300 (fun _ => by kernel_rfl) ?_
        refine Hs.callV (fun w' H => rSame03_true x y hxy w' ((hda x (List.mem_of_getElem? hx)).only H.only) ((hdb y (List.mem_of_getElem? hy)).only H.only) (hln x (List.mem_of_getElem? hx))) (by kernel_rfl) ?_
        refine Hs.run0 300 (fun _ => by kernel_rfl) ?_
        refine Hs.condF (by kernel_rfl) ?_
        refine Hs.run0 300 (fun _ => by kernel_rfl) ?_
        refine Hs.slot 13 (.c (.v (.int .i64 (i + 1 : Nat)))) rfl ((by kernel_rfl : _ = Value.int .i64 (IntKind.i64.wrap ((i : Int) + 1))).trans (wrap_nextI hlen)) ?_
        refine Hs.loop (by kernel_rfl) ?_
        exact Hs.goto (loopAt Try.f22 0) [] [] [(0, .c (.v (.slice (some ⟨ab, aoff, none⟩) l.length ca))), (1, .c (.v (.slice (some ⟨bb, boff, none⟩) l.length cb))), (12, .c (.v (.int .i64 l.length))), (13, .c (.v (.int .i64 (i + 1 : Nat))))] (by kernel_rfl) (by decide) (by kernel_rfl) (by kernel_rfl) (fun _ => (by kernel_rfl)) (fun u => ih (i + 1) (by omega) (by omega) u)
  refine Hs.run0 300 (fun _ => by kernel_rfl) ?_
  refine Hs.cond ((l.length : Int) != (l.length : Int)) (by kernel_rfl) (fun h => by simp at h) (fun _ => ?_)
  refine Hs.run0 300 (fun _ => by kernel_rfl) ?_
  refine Hs.loop (by kernel_rfl) ?_
  exact Hs.goto (loopAt Try.f22 0) [] [] [(0, .c (.v (.slice A l.length ca))), (1, .c (.v (.slice B l.length cb))), (12, .c (.v (.int .i64 l.length))), (13, .c (.v (.int .i64 (0 : Nat))))] (by kernel_rfl) (by decide) (by kernel_rfl) (by kernel_rfl) (fun _ => (by kernel_rfl)) (fun u => J _ 0 rfl (by omega) u)
/-- What a fault answers. -/
def faultP (dead : Bool) : List PM := if dead then [] else [⟨1, 0, 0, 0, 0, 2, ⟨#[]⟩, ⟨#[]⟩, false, protoB⟩]
structure FQ (E : Nat) (x : MX) (w w' : World) (A : Option Addr) (cap : Nat) (oA : Option Addr) (n : Nat) : Prop where
  chs : OwnX CH.cells E 12 w' w.heap.size (.slice A x.l.length cap) x.l
  out : ∃ outs : List MD, outs.length = n ∧ outs.map MD.plain = faultP x.dead ∧ RdX MD.row w' oA outs ∧ (∀ a, oA = some a → w.heap.size ≤ a.block) ∧ ∀ o ∈ outs, RdX u8c w' o.dA o.data ∧ ∀ a, o.dA = some a → w.heap.size ≤ a.block
def FR (E : Nat) (x : MX) (w : World) : Ending → World → Prop := fun e w' => ∃ y : (Option Addr × Nat) × (Option Addr × Nat × Nat), e = .returned (.tuple #[MX.val ⟨y.1.1, y.1.2, x.l, x.lim, true⟩, .slice y.2.1 y.2.2.1 y.2.2.2]) ∧ Only [] w w' ∧ FQ E x w w' y.1.1 y.1.2 y.2.1 y.2.2.1
theorem rd_u8c {A : Option Addr} {l : List Int} {w : World} (h : Rd w A l) : RdX u8c w A l := fun h0 => by
  obtain ⟨b, off, e, hlt, hc⟩ := h h0
  refine ⟨b, off, e, hlt, fun j u hj => ?_⟩
  have hm : l.flatMap u8c = l.map (.int .u8) := by
    clear hj hc e h h0
    induction l with
    | nil => rfl
    | cons a r ih => rw [List.flatMap_cons, ih]; rfl
  rw [hm, List.getElem?_map] at hj
  cases hz : l[j]? with
  | none => rw [hz] at hj; cases hj
  | some x =>
    rw [hz] at hj
    injection hj with hj
    subst hj
    exact hc j x hz
set_option maxHeartbeats 1000000 in
theorem muxFault_any (x : MX) (w : World) (hx : x.ok w) (hf : Few x.l) : Calls Try.prog 14 #[x.val] w (FR 45 x w) := by
  obtain ⟨xA, xcap, l, lim, dead⟩ := x
  refine Hs.enter Try.func14 [] [] [] [.g (MX.sc ⟨xA, xcap, l, lim, dead⟩)] (Mem.start0 w) (by kernel_rfl) (by kernel_rfl) ?_
  refine Hs.run2 300 (fun _ => by kernel_rfl) fun b0 b1 => ?_
  refine Hs.callS (cf := CH.cells) (E := 45) (size := 12) (fun A cap => MX.val ⟨A, cap, l, lim, dead⟩) l l.length rfl (fun w' H => twin_any ⟨xA, xcap, l, lim, dead⟩ w' (hx.only H.only) hf) (by kernel_rfl) (by kernel_rfl) fun A cap h1 h2 => ?_
  refine Hs.run0 300 (fun _ => by kernel_rfl) ?_
  cases dead with
  | true =>
    refine Hs.condT (by kernel_rfl) ?_
    refine Hs.run0 300 (fun _ => by kernel_rfl) ?_
    exact Hs.ret (v := .tuple #[MX.val ⟨A, cap, l, lim, true⟩, .slice none 0 0]) Try.func14 (by kernel_rfl) fun w' H => ⟨((A, cap), (none, 0, 0)), rfl, H.only, ⟨H.fresh 2 rfl (by kernel_rfl), [], rfl, rfl, rdX_nil, fun a ha => (by cases ha), fun o ho => (by cases ho)⟩⟩
  | false =>
    refine Hs.condF (by kernel_rfl) ?_
    refine Hs.run1 300 (fun _ => by kernel_rfl) fun b3 => ?_
    refine Hs.mark 3 26 5 protoB 14 Try.underlying26 Try.underlying5 (by kernel_rfl) (by kernel_rfl) (by kernel_rfl) ?_
    refine Hs.run1 300 (fun _ => by kernel_rfl) fun b4 => ?_
    refine Hs.ret (v := .tuple #[MX.val ⟨A, cap, l, lim, true⟩, .slice (some ⟨b4, 0, none⟩) 1 1]) Try.func14 (by kernel_rfl) fun w' H => ⟨((A, cap), (some ⟨b4, 0, none⟩, 1, 1)), rfl, H.only, ⟨H.fresh 2 rfl (by kernel_rfl), [faultM b3], rfl, rfl, H.rdB (gs := [faultM b3]) 4 (wr := true) (T := 28) (cs := (faultM b3).row.map SC.v) (by kernel_rfl) rfl, fun a ha => ?_, fun o ho => ?_⟩⟩
    · injection ha with ha; subst ha
      exact (H.own 4 (HB.b true 28 ((faultM b3).row.map SC.v)) b4 (by kernel_rfl) rfl rfl).resolve_left (by simp)
    · obtain rfl := List.mem_singleton.1 ho
      have hq : HB.lies w' _ _ (HB.q true (some ⟨b3, 0, none⟩) (fun w => Rd w (some ⟨b3, 0, none⟩) protoB) rd_st) := H.lies 3 _ (by kernel_rfl)
      refine ⟨rd_u8c hq.1, fun a ha => ?_⟩
      injection ha with ha; subst ha
      exact (H.own 3 (HB.q true (some ⟨b3, 0, none⟩) (fun w => Rd w (some ⟨b3, 0, none⟩) protoB) rd_st) b3 (by kernel_rfl) rfl rfl).resolve_left (by simp)
set_option maxHeartbeats 1000000 in
theorem rFault26_any (x : MX) (w : World) (hx : x.ok w) (hf : Few x.l) : Calls Try.prog 15 #[x.val] w (FR 61 x w) := by
  obtain ⟨xA, xcap, l, lim, dead⟩ := x
  refine Hs.enter Try.func15 [] [] [] [.g (MX.sc ⟨xA, xcap, l, lim, dead⟩)] (Mem.start0 w) (by kernel_rfl) (by kernel_rfl) ?_
  refine Hs.run2 300 (fun _ => by kernel_rfl) fun b0 b1 => ?_
  refine Hs.callS (cf := CH.cells) (E := 61) (size := 12) (fun A cap => MX.val ⟨A, cap, l, lim, dead⟩) l l.length rfl (fun w' H => rCopy26_any ⟨xA, xcap, l, lim, dead⟩ w' (hx.only H.only) hf) (by kernel_rfl) (by kernel_rfl) fun A cap h1 h2 => ?_
  refine Hs.run0 300 (fun _ => by kernel_rfl) ?_
  cases dead with
  | true =>
    refine Hs.condT (by kernel_rfl) ?_
    refine Hs.run0 300 (fun _ => by kernel_rfl) ?_
    exact Hs.ret (v := .tuple #[MX.val ⟨A, cap, l, lim, true⟩, .slice none 0 0]) Try.func15 (by kernel_rfl) fun w' H => ⟨((A, cap), (none, 0, 0)), rfl, H.only, ⟨H.fresh 2 rfl (by kernel_rfl), [], rfl, rfl, rdX_nil, fun a ha => (by cases ha), fun o ho => (by cases ho)⟩⟩
  | false =>
    refine Hs.condF (by kernel_rfl) ?_
    refine Hs.run1 300 (fun _ => by kernel_rfl) fun b3 => ?_
    refine Hs.mark 3 26 5 protoB 14 Try.underlying26 Try.underlying5 (by kernel_rfl) (by kernel_rfl) (by kernel_rfl) ?_
    refine Hs.run1 300 (fun _ => by kernel_rfl) fun b4 => ?_
    refine Hs.ret (v := .tuple #[MX.val ⟨A, cap, l, lim, true⟩, .slice (some ⟨b4, 0, none⟩) 1 1]) Try.func15 (by kernel_rfl) fun w' H => ⟨((A, cap), (some ⟨b4, 0, none⟩, 1, 1)), rfl, H.only, ⟨H.fresh 2 rfl (by kernel_rfl), [faultM b3], rfl, rfl, H.rdB (gs := [faultM b3]) 4 (wr := true) (T := 28) (cs := (faultM b3).row.map SC.v) (by kernel_rfl) rfl, fun a ha => ?_, fun o ho => ?_⟩⟩
    · injection ha with ha; subst ha
      exact (H.own 4 (HB.b true 28 ((faultM b3).row.map SC.v)) b4 (by kernel_rfl) rfl rfl).resolve_left (by simp)
    · obtain rfl := List.mem_singleton.1 ho
      have hq : HB.lies w' _ _ (HB.q true (some ⟨b3, 0, none⟩) (fun w => Rd w (some ⟨b3, 0, none⟩) protoB) rd_st) := H.lies 3 _ (by kernel_rfl)
      refine ⟨rd_u8c hq.1, fun a ha => ?_⟩
      injection ha with ha; subst ha
      exact (H.own 3 (HB.q true (some ⟨b3, 0, none⟩) (fun w => Rd w (some ⟨b3, 0, none⟩) protoB) rd_st) b3 (by kernel_rfl) rfl rfl).resolve_left (by simp)
end Go.Proofs.Ytbamojbkehnmkaa
