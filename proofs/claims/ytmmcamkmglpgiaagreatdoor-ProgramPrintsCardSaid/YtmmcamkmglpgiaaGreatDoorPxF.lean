/- Layer 19: a round of Parse, walked; for all lines that are not too long; no other condition · Layer 19: Parse; for all texts; no condition · Layer 19: Parse; for all texts; no condition · Layer 19: the document's examples; no condition · Layer 19: the examples, walked; no condition but what the library's variables hold · Layer 19: what the rows of layer 19 list of the library's variables, as the walks want it; no condition · Bounds; no condition · Arguments opened, down to their cells: structs in structs, texts, flags, slices of structs. Over any program; no condition · The frame of a law: if the call returns true and leaves all memory that was there as it was, then the law's row holds; the walk is told the reach; no condition. A slice within a struct, opened · Arguments opened with what each of their slices weighs: structs in structs, arrays, slices in slices. Over any program; no condition · Layer 19: programs handed in, opened; no condition · Layer 19: the law of printing, walked; for all programs whose lengths are small · The frame of a law whose row lists tables, which its walk wants: if the call returns true and leaves all memory that was there as it was, then the law's row holds; the walk is told the reach and the world's shape; no condition. -/
import Derived.Test.YtmmcamkmglpgiaaGreatDoorPxE
import Derived.Test.YtmmcamkmglpgiaaGreatDoorPxD
import Derived.Lib.LaidTab
import Derived.Stop.LaidErr
import Derived.LaidLaws
import Derived.MakeChecks
import Derived.Test.YtmmcamkmglpgiaaGreatDoorPxA
import Derived.Test.YtmmcamkmglpgiaaGreatDoorCards
import Derived.Test.YtmmcamkmglpgiaaGreatDoorKit
import Derived.Deep.Fields
import Derived.Deep.Slices
import Derived.Test.YtmmcamkmglpgiaaGreatDoorFrame
import Derived.SizedLaws
import Derived.Deep.Strs
import Derived.Test.YtmmcamkmglpgiaaGreatDoorApX
import Derived.OpenShut
import Derived.Test.YtmmcamkmglpgiaaGreatDoorPgA
import Derived.Test.YtmmcamkmglpgiaaGreatDoorPbD
import Derived.HandedShaped
import Derived.Shelf.Vars
import Derived.Lay
import Derived.SevenTiedAt
namespace Go.Proofs.YtmmcamkmglpgiaaGreatDoor
open Go.RowKit Go.Shelf
set_option linter.all false
set_option maxRecDepth 100000
theorem pgOk_st (x : PG) : StX (x.A.map (·.block)).toList (fun w => PgOk w x) := fun w w' hs he h => by
  refine ⟨fun h0 => ?_, h.2⟩
  obtain ⟨b, off, e, hlt, hc⟩ := h.1 h0
  refine ⟨b, off, e, Nat.lt_of_lt_of_le hlt hs, fun j u hj => ?_⟩
  exact (World.cell?_of_block (w := w) (he b (by rw [e]; simp))).trans (hc j u hj)
theorem splice_last (done : List PG) (cur : PG) (A : Option Addr) (c : Nat) (o : OP9) (d : Nat) (hd : done.length = d) : splice ((done ++ [cur]).flatMap cPG) (0 + d * 2 + 1) [.slice A (cur.ops.length + 1) c] = (done ++ [(⟨cur.n, A, c, cur.ops ++ [o]⟩ : PG)]).flatMap cPG := by
  subst hd
  have e : (done.flatMap cPG).length = done.length * 2 := by
    induction done with
    | nil => rfl
    | cons a l ih => rw [List.flatMap_cons, List.length_append, ih, cPG_len, List.length_cons]; omega
  have e1 : (done ++ [cur]).flatMap cPG = done.flatMap cPG ++ cPG cur := by simp
  have e2 : (done ++ [(⟨cur.n, A, c, cur.ops ++ [o]⟩ : PG)]).flatMap cPG = done.flatMap cPG ++ cPG ⟨cur.n, A, c, cur.ops ++ [o]⟩ := by simp
  rw [e1, e2]
  unfold splice
  rw [List.take_append, List.drop_append, e]
  have e3 : 0 + done.length * 2 + 1 - done.length * 2 = 1 := by omega
  have e4 : (done.flatMap cPG).take (0 + done.length * 2 + 1) = done.flatMap cPG := List.take_of_length_le (by omega)
  rw [e3, e4]
  have e5 : (done.flatMap cPG).drop (0 + done.length * 2 + 1 + [(.slice A (cur.ops.length + 1) c : Value)].length) = [] := List.drop_of_length_le (by rw [List.length_cons, List.length_nil, e]; omega)
  rw [e5]
  have e6 : 0 + done.length * 2 + 1 + [(.slice A (cur.ops.length + 1) c : Value)].length - done.length * 2 = 2 := by rw [List.length_cons, List.length_nil]; omega
  rw [e6]
  simp [cPG]
theorem wrap_lastP {d : Nat} (h : d < 9223372036854775807) : Value.int .i64 (IntKind.i64.wrap (((d + 1 : Nat) : Int) - 1)) = (SV.c (.v (.int .i64 (d : Nat)))).den [] := by
  rw [IntWalk.i64_in _ (by omega)]
  show Value.int _ _ = Value.int _ _
  congr 1
  omega
theorem trimN_le (x : List UInt8) : (trimN x).length ≤ x.length := by
  unfold trimN Lib.trimSuffix
  split
  · simp
  · exact Nat.le_refl _
theorem roundP {wE W1 : World} {k : KP} {z : StP} {fp bs : List Nat} {pre : List (List UInt8)} {x : List UInt8} {s : List UInt8} (hs : s.length ≤ 262144) (hS : SLib wE) (K : k.ok wE) (J : JP wE k z fp pre bs W1) {t : List (List UInt8)} (ht : pre ++ x :: t = linesB s) :
    YieldAt Fence.wide 0 Tryz.prog k.l #[.string (strL x)] W1 (RdP wE k s pre x bs W1) := by
  have hxl : x.length ≤ 262144 := Nat.le_trans (lines_mem (s := s) (by rw [← ht]; simp)) hs
  have htl : (trimN x).length ≤ 262144 := Nat.le_trans (trimN_le x) hxl
  have hpl : pre.length + 1 ≤ 262144 := by
    have h1 := lines_len s
    rw [← ht] at h1
    simp at h1
    omega
  obtain ⟨b2, b3, b4, Bs, l, r, u⟩ := k
  obtain ⟨done, cur, has, A, c, n, j⟩ := z
  obtain ⟨hn, hj, hnm, hjm⟩ := J.ok
  dsimp only [StP.outs] at hn hj hnm hjm
  have hlbs : l ∉ bs := fun h => (J.far l (by simp [h])).1 rfl
  have hM : Mem W1 bs (btP b2 b3 b4) (hpP (outsP done cur has) n A c cur j) W1 := J.mem
  refine yieldAt_of (t := 24) (rf := rfP) (L := bs) (β := btP b2 b3 b4) (slP Bs u) (hpP (outsP done cur has) n A c cur j) rfl (by kernel_rfl) J.hl (by kernel_rfl) hM (by kernel_rfl) ?_
  refine Hs.run0 300 (fun _ => by kernel_rfl) ?_
  refine Hs.rBegin (r := rcP b2 b3 b4 Bs u r .ready none) (k := [.code rfP.body]) ⟨(by kernel_rfl), (by kernel_rfl)⟩ (by kernel_rfl) J.hl rfl hlbs fun w2 w3 H2 e3 h3 => ?_
  subst e3
  have hlW : l < W1.heap.size := (Array.getElem?_eq_some_iff.1 J.hl).1
  have hrW : r < W1.heap.size := (Array.getElem?_eq_some_iff.1 J.hr).1
  have hO2 := H2.only
  have hOp := only_put w2 l (.loop (rcP b2 b3 b4 Bs u r .busy none))
  have hbs : wrN (btP b2 b3 b4) (hpP (outsP done cur has) n A c cur j) = bs := J.hb.symm
  have hrbs : r ∉ bs := fun h => (J.far r (by simp [h])).2.1 rfl
  have hb2 : ∀ y, y < W1.heap.size → y ∉ bs → y ≠ l → (w2.putObj l (.loop (rcP b2 b3 b4 Bs u r .busy none))).heap[y]? = W1.heap[y]? := fun y h1 h2 h3 => (World.putObj_heap_other h3).trans (hO2.block y h1 h2)
  have C1 : Fx W1 (GP ⟨b2, b3, b4, Bs, l, r, u⟩ fp bs) (w2.putObj l (.loop (rcP b2 b3 b4 Bs u r .busy none))) (wrN (btP b2 b3 b4) (hpP (outsP done cur has) n A c cur j)) (l :: r :: fp) (QP ⟨b2, b3, b4, Bs, l, r, u⟩ fp W1) := by
    refine ⟨?_, fun y hy => .inl ?_, ⟨h3, ?_, fun y hy => ?_⟩, fun y hy => ⟨?_, ?_, .inl ?_⟩, QP.st (k := ⟨b2, b3, b4, Bs, l, r, u⟩)⟩
    · refine Only.trans (L' := [l]) ⟨hO2.os, hO2.tape, hO2.output, hO2.size, fun i hi hn => hO2.block i hi fun hm => hn ?_⟩ hOp fun y hy => .inl ?_
      · simp [hm]
      · simp only [List.mem_singleton] at hy; subst hy; simp
    · rw [hbs] at hy; simp [hy]
    · exact (hb2 r hrW hrbs (Ne.symm K.lr)).trans J.hr
    · exact hb2 y (J.far y (by simp [hy])).2.2.2.2 (J.ap y hy) (J.far y (by simp [hy])).1
    · refine Nat.lt_of_lt_of_le ?_ (Nat.le_trans hO2.size hOp.size)
      simp only [List.mem_cons] at hy
      rcases hy with h | h | h
      · subst h; exact hlW
      · subst h; exact hrW
      · exact (J.far y (by simp [h])).2.2.2.2
    · rw [hbs]
      simp only [List.mem_cons] at hy
      rcases hy with h | h | h
      · subst h; exact hlbs
      · subst h; exact hrbs
      · exact J.ap y h
    · simp only [List.mem_append, List.mem_cons]
      simp only [List.mem_cons] at hy
      exact .inr hy
  have hS1 : ∀ {w : World} {β : List Nat} {hp : List HB}, Mem (w2.putObj l (.loop (rcP b2 b3 b4 Bs u r .busy none))) (wrN (btP b2 b3 b4) (hpP (outsP done cur has) n A c cur j)) β hp w → SLib w := fun H => hS.only (J.back K (C1.fin H))
  have hok2 := J.ok
  clear hOp hb2 hlW hrW H2 hO2 hrbs hlbs
  refine Hs.run0 300 (fun _ => by kernel_rfl) ?_
  refine Hs.callV (v := .string (strL (trimN x))) (fun w' H => trimN_any x (by omega) w') (by kernel_rfl) ?_
  refine Hs.run0 300 (fun _ => by kernel_rfl) ?_
  refine Hs.callV (v := .tuple #[.string (strL (behind (trimN x))), .bool (isHead (trimN x))]) (fun w' H => cutP_any _ w') (by kernel_rfl) ?_
  refine Hs.run0 300 (fun _ => by kernel_rfl) ?_
  refine Hs.cond (isHead (trimN x)) (by kernel_rfl) (fun h => ?_) (fun h => ?_)
  · refine Hs.run0 300 (fun _ => by kernel_rfl) ?_
    refine Hs.callV (v := .bool (badName (behind (trimN x)))) (fun w' H => contains_any _ w') (by kernel_rfl) ?_
    refine Hs.run0 300 (fun _ => by kernel_rfl) ?_
    refine Hs.cond (badName (behind (trimN x))) (by kernel_rfl) (fun h2 => ?_) (fun h2 => ?_)
    · refine Hs.run0 300 (fun _ => by kernel_rfl) ?_
      refine Hs.rRetB (by kernel_rfl) fun w H => ?_
      have e : stepP ((outsP done cur has).map PG.m) x = none := by unfold stepP stepX; rw [h, h2]
      exact failP K J e ht C1 (fun w h => h) H (Mem.at (wr := true) (T := 29) (cs := [.v (.slice none 0 0)]) H 0 (by kernel_rfl)) (Mem.at (wr := true) (T := 27) (cs := [.v (.int .i64 4)]) H 1 (by kernel_rfl))
    · have e : stepP ((outsP done cur has).map PG.m) x = some ((outsP done cur has).map PG.m ++ [(strL (behind (trimN x)), [])]) := by unfold stepP stepX; rw [h, h2]
      refine Hs.run1 300 (fun _ => by kernel_rfl) fun b5 => ?_
      refine Hs.app (cf := cPG) (c := 1) (ty := 29) 3 elemPr (outsP done cur has) [(⟨strL (behind (trimN x)), none, 0, []⟩ : PG)] n 1 hn rfl cPG_one cPG_len (A := A) (B := some ⟨b5, 0, none⟩) (cap := c) (by kernel_rfl) (by kernel_rfl) (by kernel_rfl) (fun w' H => H.rdB (cf := cPG) (wr := true) (T := 33) (cs := [.v (.string (strL (behind (trimN x)))), .v (.slice none 0 0)]) (gs := [(⟨strL (behind (trimN x)), none, 0, []⟩ : PG)]) 5 (by kernel_rfl) rfl) (by unfold maxLen; omega) (by rw [elemPr_by]; omega) fun A6 c6 h6 => ?_
      refine Hs.run0 300 (fun _ => by kernel_rfl) ?_
      have hst : StX ((cur.A.map (·.block)).toList ++ fp) (fun w => ∀ y ∈ outsP done cur has, PgOk w y) := by
        intro w w' h1 h2 h3 y hy
        cases has with
        | false => cases hy
        | true =>
          rcases List.mem_append.1 hy with h4 | h4
          · exact J.st w w' h1 (fun q hq => h2 q (by simp [hq])) (fun y hy => h3 y (List.mem_append.2 (.inl hy))) y h4
          · obtain rfl := List.mem_singleton.1 h4
            exact pgOk_st y w w' h1 (fun q hq => h2 q (List.mem_append.2 (.inl hq))) (h3 y hy)
      have hfpc : ∀ y ∈ (cur.A.map (·.block)).toList, cur.A.map (·.block) = some y := fun y hy => Option.mem_toList.1 hy
      refine Hs.shutFx [4] ((cur.A.map (·.block)).toList) (fun w => PgOk w cur) C1 (pgOk_st cur) (fun w H => ?_) (fun y hy => ⟨4, by simp, .s cur.A cur.c j 36 4 (cur.ops.flatMap cOP), (by kernel_rfl), rfl, hfpc y hy⟩) (by kernel_rfl) fun w4 L4 C2 MV => ?_
      · have h1 := Mem.rdX (cf := cOP) (E := 36) (size := 4) (A := cur.A) (cap := cur.c) H 4 hj (by kernel_rfl)
        have h2 := Mem.capS (cf := cOP) (E := 36) (size := 4) (A := cur.A) (cap := cur.c) H 4 hj (by kernel_rfl)
        exact ⟨h1, by rw [hj]; exact h2.1, h2.2⟩
      have C3 := C2.two (MV _ _ C1 (by simp))
      have C5 : Fx W1 (GP ⟨b2, b3, b4, Bs, l, r, u⟩ fp bs) w4 L4 (l :: r :: ((cur.A.map (·.block)).toList ++ fp)) (fun w => QP ⟨b2, b3, b4, Bs, l, r, u⟩ fp W1 w ∧ ∀ y ∈ outsP done cur has, PgOk w y) := by
        refine C3.sub (fun y hy => ?_) (fun h => ⟨h.2, ?_⟩) ?_
        · simp only [List.mem_cons, List.mem_append] at hy ⊢
          rcases hy with h | h | h | h
          · exact .inr (.inl h)
          · exact .inr (.inr (.inl h))
          · exact .inl h
          · exact .inr (.inr (.inr h))
        · intro y hy
          cases has with
          | false => cases hy
          | true =>
            rcases List.mem_append.1 hy with h4 | h4
            · exact J.st W1 w4 C3.only.size h.2.2.2 J.dn y h4
            · obtain rfl := List.mem_singleton.1 h4
              exact h.1
        · intro w w' h1 h2 h3
          exact ⟨QP.st (k := ⟨b2, b3, b4, Bs, l, r, u⟩) w w' h1 (fun q hq => h2 q (by simp only [List.mem_cons, List.mem_append] at hq ⊢; rcases hq with h | h | h <;> simp [h])) h3.1, hst w w' h1 (fun q hq => h2 q (by simp only [List.mem_cons]; exact .inr (.inr hq))) h3.2⟩
      clear C1 C2 C3 MV hS1
      refine Hs.nilS 36 4 (by kernel_rfl) ?_ (by kernel_rfl)
      refine Hs.goto [] [0, 1, 2, 3, 6] (StP.hp ⟨outsP done cur has, ⟨strL (behind (trimN x)), none, 0, []⟩, true, A6, c6, n + 1, 0⟩) [] (by kernel_rfl) (by decide) (by kernel_rfl) (by kernel_rfl) (fun _ => (by kernel_rfl)) (fun u2 => ?_)
      refine Hs.rEnd ⟨rfl, rfl⟩ fun w H => ?_
      refine endP (z' := ⟨outsP done cur has, ⟨strL (behind (trimN x)), none, 0, []⟩, true, A6, c6, n + 1, 0⟩) K J (e.trans ?_) ⟨?_, rfl, ?_, Nat.zero_le _⟩ C5 hst (fun y hy => ?_) (fun y hy => List.mem_append.2 (.inr hy)) H
      · show _ = some ((outsP done cur has ++ [_]).map PG.m)
        rw [List.map_append]
        rfl
      · show (outsP done cur has ++ [_]).length = n + 1
        rw [List.length_append, hn]
        rfl
      · show n + 1 ≤ pre.length + 1
        omega
      · rcases List.mem_append.1 hy with h4 | h4
        · refine .inr ?_
          rw [J.hb]
          exact wrN_mem.2 ⟨4, .s cur.A cur.c j 36 4 (cur.ops.flatMap cOP), 0, rfl, rfl, rfl, hfpc y h4⟩
        · exact .inl h4
  · refine Hs.run0 300 (fun _ => by kernel_rfl) ?_
    rcases hop : opB (trimN x) with ⟨o, ok⟩
    have hopC : ∀ w', SLib w' → Calls Tryz.prog 37 #[.string (strL (trimN x))] w' (fun e w2 => e = .returned (opV (o, ok)) ∧ Only [] w' w2) := by
      intro w' hS
      have := op_any19 (trimN x) (by omega) w' hS
      rwa [hop] at this
    refine Hs.callV (v := opV (o, ok)) (fun w' H => hopC w' (hS1 H)) (by kernel_rfl) ?_
    clear hopC hS1
    cases ok with
    | false =>
      have e : stepP ((outsP done cur has).map PG.m) x = none := by unfold stepP stepX; rw [h, hop]
      refine Hs.run1 300 (fun _ => by kernel_rfl) fun b5 => ?_
      refine Hs.rung0 [2] 300 (fun _ => by kernel_rfl) ?_
      refine Hs.condT (by kernel_rfl) ?_
      refine Hs.run0 300 (fun _ => by kernel_rfl) ?_
      refine Hs.rRetB (by kernel_rfl) fun w H => ?_
      exact failP K J e ht C1 (fun w h => h) H (Mem.at (wr := true) (T := 29) (cs := [.v (.slice none 0 0)]) H 0 (by kernel_rfl)) (Mem.at (wr := true) (T := 27) (cs := [.v (.int .i64 4)]) H 1 (by kernel_rfl))
    | true =>
      cases has with
      | false =>
        obtain rfl : n = 0 := hn.symm
        have e : stepP ((outsP done cur false).map PG.m) x = none := by unfold stepP stepX; rw [h, hop]; rfl
        refine Hs.run1 300 (fun _ => by kernel_rfl) fun b5 => ?_
        refine Hs.rung0 [2] 300 (fun _ => by kernel_rfl) ?_
        refine Hs.condT (by kernel_rfl) ?_
        refine Hs.run0 300 (fun _ => by kernel_rfl) ?_
        refine Hs.rRetB (by kernel_rfl) fun w H => ?_
        exact failP K J e ht C1 (fun w h => h) H (Mem.at (wr := true) (T := 29) (cs := [.v (.slice none 0 0)]) H 0 (by kernel_rfl)) (Mem.at (wr := true) (T := 27) (cs := [.v (.int .i64 4)]) H 1 (by kernel_rfl))
      | true =>
        have hn2 : done.length + 1 = n := by rw [← hn]; simp [outsP]
        subst hn2
        subst hj
        have e : stepP ((outsP done cur true).map PG.m) x = some (done.map PG.m ++ [(cur.n, cur.ops ++ [o])]) := by
          unfold stepP stepX
          rw [h, hop]
          show addOp o ((done ++ [cur]).map PG.m) = _
          rw [List.map_append]
          exact addOp_app o (PG.m cur) (done.map PG.m)
        have hfl : ((done ++ [cur]).flatMap cPG).length = (done.length + 1) * 2 := by
          rw [show (done.length + 1) = (done ++ [cur]).length by simp]
          generalize done ++ [cur] = q
          induction q with
          | nil => rfl
          | cons a l ih => rw [List.flatMap_cons, List.length_append, ih, cPG_len, List.length_cons]; omega
        refine Hs.run1 300 (fun _ => by kernel_rfl) fun b5 => ?_
        refine Hs.rung0 [2] 300 (fun _ => by kernel_rfl) ?_
        refine Hs.cond (decide (((done.length + 1 : Nat) : Int) = 0)) (by kernel_rfl) (fun h => by have := of_decide_eq_true h; omega) (fun _ => ?_)
        refine Hs.run0 300 (fun _ => by kernel_rfl) ?_
        refine Hs.someS (E := 33) (size := 2) (A := A) (cap := c) (nl := done.length + 1) (vs := (done ++ [cur]).flatMap cPG) 3 (by kernel_rfl) (by omega) fun g hg => ?_
        subst hg
        refine Hs.slot 55 (.c (.v (.int .i64 (done.length : Nat)))) rfl ((by kernel_rfl : _ = Value.int .i64 (IntKind.i64.wrap (((done.length + 1 : Nat) : Int) - 1))).trans (wrap_lastP (by omega))) ?_
        refine Hs.idx (b := g) (off := 0) (len := done.length + 1) (c := c) (i := done.length) elemPr (by omega) (by kernel_rfl) ?_
        refine Hs.run0 300 (fun _ => by kernel_rfl) ?_
        refine Hs.any [3, 5, 1010] (by kernel_rfl) ?_
        refine Hs.run0 300 (fun _ => by kernel_rfl) ?_
        refine Hs.takeLdC (rd := [3, 5]) 4 3 cPG_len (E := 33) (E' := 31) (g := g) (i := done.length) (q := 1) (cap := c) (nl := done.length + 1) (l := done ++ [cur]) (x := cur) (.slice cur.A cur.ops.length cur.c) (by kernel_rfl) (by kernel_rfl) (by kernel_rfl) hn (by simp) rfl (by kernel_rfl) ?_
        refine Hs.run1 300 (fun _ => by kernel_rfl) fun b6 => ?_
        refine Hs.app (cf := cOP) (c := 1) (ty := 31) 4 elemPo cur.ops [o] cur.ops.length 1 rfl rfl cOP_one cOP_len (A := cur.A) (B := some ⟨b6, 0, none⟩) (cap := cur.c) (by kernel_rfl) (by kernel_rfl) (by kernel_rfl) (fun w' H => H.rdB (cf := cOP) (wr := true) (T := 36) (cs := o.sc) (gs := [o]) 6 (by kernel_rfl) rfl) (by unfold maxLen; omega) (by rw [elemPo_by]; omega) fun A7 c7 h7 => ?_
        refine Hs.run0 300 (fun _ => by kernel_rfl) ?_
        refine Hs.stc 3 (E := 33) (size := 2) (g := g) (cap := c) (nl := done.length + 1) (vs := (done ++ [cur]).flatMap cPG) (by kernel_rfl) (0 + done.length * 2 + 1) (by omega) (v := .slice A7 (cur.ops.length + 1) c7) rfl rfl (E' := 31) (by kernel_rfl) (by kernel_rfl) (by kernel_rfl) ?_
        rw [splice_last done cur A7 c7 o done.length rfl]
        refine Hs.run0 300 (fun _ => by kernel_rfl) ?_
        refine Hs.goto [] [0, 1, 2, 3, 4] (StP.hp ⟨done, ⟨cur.n, A7, c7, cur.ops ++ [o]⟩, true, some ⟨g, 0, none⟩, c, done.length + 1, cur.ops.length + 1⟩) [] (by kernel_rfl) (by decide) (by kernel_rfl) (by kernel_rfl) (fun _ => (by kernel_rfl)) (fun u2 => ?_)
        refine Hs.rEnd ⟨rfl, rfl⟩ fun w H => ?_
        refine endP (z' := ⟨done, ⟨cur.n, A7, c7, cur.ops ++ [o]⟩, true, some ⟨g, 0, none⟩, c, done.length + 1, cur.ops.length + 1⟩) (fp' := fp) K J (e.trans ?_) ⟨?_, ?_, ?_, ?_⟩ (C1.imp (fun h => ⟨h, J.st W1 _ C1.only.size h.2.2 J.dn⟩) ?_) J.st (fun y hy => .inl hy) (fun y hy => hy) H
        · show _ = some ((done ++ [_]).map PG.m)
          rw [List.map_append]
          rfl
        · show (done ++ [_]).length = done.length + 1
          rw [List.length_append]
          rfl
        · show (cur.ops ++ [o]).length = cur.ops.length + 1
          rw [List.length_append]
          rfl
        · show done.length + 1 ≤ pre.length + 1
          omega
        · show cur.ops.length + 1 ≤ pre.length + 1
          omega
        · intro w w' h1 h2 h3
          exact ⟨QP.st (k := ⟨b2, b3, b4, Bs, l, r, u⟩) w w' h1 h2 h3.1, J.st w w' h1 (fun q hq => h2 q (by simp [hq])) h3.2⟩
end Go.Proofs.YtmmcamkmglpgiaaGreatDoor

namespace Go.Proofs.YtmmcamkmglpgiaaGreatDoor
open Go.RowKit Go.Shelf
set_option linter.all false
set_option maxRecDepth 100000
/-- The programs that a text says, in memory, or what is wrong. -/
def ParseQ (o : Option (List PM) × Int) (w : World) (e : Ending) (w' : World) : Prop := match o with
  | (some l, i) => ∃ (ps : List PG) (A : Option Addr) (c : Nat) (fp : List Nat), e = .returned (.tuple #[.slice A ps.length c, .int .i64 i]) ∧ ps.map PG.m = l ∧ Pgs w' A c ps ∧ StX fp (fun w => Pgs w A c ps) ∧ ∀ x ∈ fp, w.heap.size ≤ x ∧ x < w'.heap.size
  | (none, i) => e = .returned (.tuple #[.slice none 0 0, .int .i64 i])
abbrev ParseR (s : List UInt8) (w : World) : Ending → World → Prop := fun e w' => ParseQ (parseM s) w e w' ∧ Only [] w w'
theorem parse_lines {s : List UInt8} (h1 : s.length ≤ 262144) (h2 : (!s.isEmpty && !endsN s) = false) : parseM s = (match foldP [] (linesB s) with
    | none => (none, 4)
    | some l => if checkM l = 0 then (some l, 0) else (none, checkM l)) := by
  unfold parseM
  rw [decide_eq_false (by omega : ¬ 262144 < s.length), h2]
  all_goals rfl
theorem progs_st {z : StP} {fp : List Nat} (hst : StX fp (fun w => ∀ x ∈ z.done, PgOk w x)) (A : Option Addr) (c : Nat) : StX ((A.map (·.block)).toList ++ ((z.cur.A.map (·.block)).toList ++ fp)) (fun w => Pgs w A c z.outs) := fun w w' hs he h => by
  refine ⟨fun h0 => ?_, h.le, h.max, ?_⟩
  · obtain ⟨b, off, e, hlt, hc⟩ := h.rd h0
    refine ⟨b, off, e, Nat.lt_of_lt_of_le hlt hs, fun j u hj => ?_⟩
    exact (World.cell?_of_block (w := w) (he b (by rw [e]; simp))).trans (hc j u hj)
  · have h4 := h.all
    intro y hy
    unfold StP.outs outsP at hy h4
    split at hy
    · rename_i e
      rw [e] at h4
      dsimp only at h4
      rcases List.mem_append.1 hy with h5 | h5
      · exact hst w w' hs (fun q hq => he q (by simp [hq])) (fun y hy => h4 y (List.mem_append.2 (.inl hy))) y h5
      · have h6 := h4 y hy
        rw [List.mem_singleton.1 h5] at h6 ⊢
        exact pgOk_st z.cur w w' hs (fun q hq => he q (List.mem_append.2 (.inr (List.mem_append.2 (.inl hq))))) h6
    · cases hy
section
variable {w : World} {k : KP} {s : List UInt8}
/-- A round has returned. -/
theorem badEndP (hp : parseM s = (match foldP [] (linesB s) with
    | none => (none, 4)
    | some l => if checkM l = 0 then (some l, 0) else (none, checkM l))) (K : k.ok w) {W' : World} (J : JX w k s W') (o : Obj) : Goes Tryz.prog 17 (ParseR s w) (.code .ret :: rfP.k) (fr (Tryz.f17).ntmps [k.b2, k.b3, k.b4, 0, 0, 0] (.dfr [⟨.collected k.r, #[]⟩] (slP k.Bs k.u))) (W'.putObj k.l o) := by
  obtain ⟨b2, b3, b4, Bs, l, r, u⟩ := k
  have e : fr (Tryz.f17).ntmps [b2, b3, b4, 0, 0, 0] (.dfr [⟨.collected r, #[]⟩] (slP Bs u)) = fr (Tryz.f17).ntmps [b2, b3, b4] (.dfr [⟨.collected r, #[]⟩] (slP Bs u)) := fr_app (Tryz.f17).ntmps [0, 0, 0] (β := [b2, b3, b4]) (by kernel_rfl)
  show Goes Tryz.prog 17 (ParseR s w) (.code .ret :: rfP.k) (fr (Tryz.f17).ntmps [b2, b3, b4, 0, 0, 0] (.dfr [⟨.collected r, #[]⟩] (slP Bs u))) (W'.putObj l o)
  rw [e]
  have hput : ∀ (y : Nat), y ≠ l → (W'.putObj l o).heap[y]? = W'.heap[y]? := fun y hy => World.putObj_heap_other hy
  have g2 : Blk (W'.putObj l o) b2 29 [.slice none 0 0] := (hput _ J.n2.2).trans J.h2
  have g3 : Blk (W'.putObj l o) b3 27 [.int .i64 4] := (hput _ J.n3.2).trans J.h3
  have H0 : Mem (W'.putObj l o) [b2, b3] [b2, b3, b4] [.b true 29 [.v (.slice none 0 0)], .b true 27 [.v (.int .i64 4)], .no] (W'.putObj l o) := Mem.startW [b2, b3] rfl (by simp [bks, HB.blk, J.ne]) ⟨g2, g3, trivial, trivial⟩ (fun y hy => by simpa [wrN, HB.wr, HB.blk] using hy)
  have key : Hs Tryz.prog ⟨17, none⟩ (ParseR s w) (Tryz.f17).ntmps (W'.putObj l o) [b2, b3] [b2, b3, b4] ⟨.no, .code .ret :: rfP.k, .dfr [⟨.collected r, #[]⟩] (slP Bs u), [.b true 29 [.v (.slice none 0 0)], .b true 27 [.v (.int .i64 4)], .no]⟩ := by
    refine Hs.retCB (r := r) (v := .tuple #[.slice none 0 0, .int .i64 4]) Tryz.func17 rfl rfl (by kernel_rfl) rfl (fun h => ?_) ((hput _ (Ne.symm K.lr)).trans J.hr) fun w1 w2 H e _ => ?_
    · simp only [List.mem_cons, List.not_mem_nil, or_false] at h
      rcases h with h | h
      · exact J.n2.1 h.symm
      · exact J.n3.1 h.symm
    · subst e
      refine ⟨?_, ?_⟩
      · rw [hp, J.fold]
        rfl
      · refine Only.trans (Only.trans (Only.trans J.only (only_put W' l o) (fun y hy => .inr ?_)) H.only (fun y hy => .inr ?_)) (only_put w1 r _) (fun y hy => .inr ?_)
        · simp only [List.mem_singleton] at hy; subst hy; exact K.l
        · simp only [List.mem_cons, List.not_mem_nil, or_false] at hy
          rcases hy with h | h
          · subst h; exact J.o2
          · subst h; exact J.o3
        · simp only [List.mem_singleton] at hy; subst hy; exact K.r
  exact key.go _ H0 (by kernel_rfl)
/-- All lines have come. -/
theorem goodEndP (hp : parseM s = (match foldP [] (linesB s) with
    | none => (none, 4)
    | some l => if checkM l = 0 then (some l, 0) else (none, checkM l))) (K : k.ok w) {z : StP} {fp bs : List Nat} {W' : World} (J : JP w k z fp (linesB s) bs W') (o : Obj) : Goes Tryz.prog 17 (ParseR s w) rfP.k (fr (Tryz.f17).ntmps [k.b2, k.b3, k.b4, 0, 0, 0] (.dfr [⟨.collected k.r, #[]⟩] (slP k.Bs k.u))) (W'.putObj k.l o) := by
  obtain ⟨b2, b3, b4, Bs, l, r, u⟩ := k
  obtain ⟨done, cur, has, A, c, n, j⟩ := z
  obtain ⟨hn, hj, hnm, hjm⟩ := J.ok
  dsimp only [StP.outs] at hn hj hnm hjm
  have e : fr (Tryz.f17).ntmps [b2, b3, b4, 0, 0, 0] (.dfr [⟨.collected r, #[]⟩] (slP Bs u)) = fr (Tryz.f17).ntmps (btP b2 b3 b4) (.dfr [⟨.collected r, #[]⟩] (slP Bs u)) := fr_app (Tryz.f17).ntmps [0] (β := btP b2 b3 b4) (by kernel_rfl)
  show Goes Tryz.prog 17 (ParseR s w) rfP.k (fr (Tryz.f17).ntmps [b2, b3, b4, 0, 0, 0] (.dfr [⟨.collected r, #[]⟩] (slP Bs u))) (W'.putObj l o)
  rw [e]
  have hlW : l < W'.heap.size := (Array.getElem?_eq_some_iff.1 J.hl).1
  have hlbs : l ∉ bs := fun h => (J.far l (by simp [h])).1 rfl
  have hrbs : r ∉ bs := fun h => (J.far r (by simp [h])).2.1 rfl
  have hput : ∀ (y : Nat), y ≠ l → (W'.putObj l o).heap[y]? = W'.heap[y]? := fun y hy => World.putObj_heap_other hy
  have hM : Mem W' bs (btP b2 b3 b4) (hpP (outsP done cur has) n A c cur j) W' := J.mem
  have hOp := only_put W' l o
  have H0 : Mem (W'.putObj l o) bs (btP b2 b3 b4) (hpP (outsP done cur has) n A c cur j) (W'.putObj l o) := by
    have h1 := Mem.rebaseF hM hOp fun i h y h1 h2 hm => by
      obtain rfl := List.mem_singleton.1 hm
      have hw : h.wr = true := by
        have := List.all_eq_true.1 (hpP_ro (outsP done cur has) n A c cur j) h (List.mem_of_getElem? h1)
        cases h with
        | no => cases h2
        | _ => exact this
      rcases hM.own i h y h1 hw h2 with h3 | h3
      · exact hlbs h3
      · omega
    rwa [show wrN (btP b2 b3 b4) (hpP (outsP done cur has) n A c cur j) = bs from J.hb.symm] at h1
  have hP : ∀ (hp : List HB) (w1 : World), Mem (W'.putObj l o) bs (btP b2 b3 b4) hp w1 → hp[3]? = some (.s A c n 33 2 ((outsP done cur has).flatMap cPG)) → hp[4]? = some (.s cur.A cur.c j 36 4 (cur.ops.flatMap cOP)) → Pgs w1 A c (outsP done cur has) := by
    intro hp w1 H e3 e4
    have hO := H.only
    have h3 := Mem.rdX (cf := cPG) H 3 hn e3
    have h4 := Mem.capS (cf := cPG) H 3 hn e3
    have h5 := Mem.rdX (cf := cOP) H 4 hj e4
    have h6 := Mem.capS (cf := cOP) H 4 hj e4
    refine ⟨h3, by rw [hn]; exact h4.1, h4.2, fun y hy => ?_⟩
    cases has with
    | false => cases hy
    | true =>
      rcases List.mem_append.1 hy with h7 | h7
      · refine J.st W' w1 (Nat.le_trans hOp.size hO.size) (fun q hq => ?_) J.dn y h7
        have hf := J.far q (by simp [hq])
        exact (hO.block q (Nat.lt_of_lt_of_le hf.2.2.2.2 hOp.size) (J.ap q hq)).trans (hput q hf.1)
      · rw [List.mem_singleton.1 h7]
        exact ⟨h5, by rw [hj]; exact h6.1, h6.2⟩
  have hrW : (W'.putObj l o).heap[r]? = some (.deferred (some [])) := (hput _ (Ne.symm K.lr)).trans J.hr
  have hOE : ∀ {β : List Nat} {hp : List HB} {w1 : World}, Mem (W'.putObj l o) bs β hp w1 → ∀ ob, Only [] w (w1.putObj r ob) := fun H ob => by
    refine Only.trans (Only.trans (Only.trans J.only hOp (fun y hy => .inr ?_)) H.only (fun y hy => .inr ?_)) (only_put _ r ob) (fun y hy => .inr ?_)
    · simp only [List.mem_singleton] at hy; subst hy; exact K.l
    · exact (J.far y (by simp [hy])).2.2.2.1
    · simp only [List.mem_singleton] at hy; subst hy; exact K.r
  have key : Hs Tryz.prog ⟨17, none⟩ (ParseR s w) (Tryz.f17).ntmps (W'.putObj l o) bs (btP b2 b3 b4) ⟨.no, rfP.k, .dfr [⟨.collected r, #[]⟩] (slP Bs u), hpP (outsP done cur has) n A c cur j⟩ := by
    have hC : ∀ w', Mem (W'.putObj l o) bs (btP b2 b3 b4) (hpP (outsP done cur has) n A c cur j) w' → Calls Tryz.prog 9 #[.slice A n c] w' fun e w2 => e = .returned (.int .i64 (checkM ((outsP done cur has).map PG.m))) ∧ Only [] w' w2 := fun w' H => by
      have := check_any (outsP done cur has) A c w' (hP _ w' H rfl rfl)
      rwa [hn] at this
    refine Hs.run0 300 (fun _ => by kernel_rfl) ?_
    refine Hs.callV (v := .int .i64 (checkM ((outsP done cur has).map PG.m))) (fun w' H => hC w' (Eq.mp (by kernel_rfl) H)) (by kernel_rfl) ?_
    refine Hs.run0 300 (fun _ => by kernel_rfl) ?_
    refine Hs.cond (!decide (checkM ((outsP done cur has).map PG.m) = 0)) (by kernel_rfl) (fun h1 => ?_) (fun h1 => ?_)
    · refine Hs.run0 300 (fun _ => by kernel_rfl) ?_
      refine Hs.retCB (r := r) (v := .tuple #[.slice none 0 0, .int .i64 (checkM ((outsP done cur has).map PG.m))]) Tryz.func17 (by kernel_rfl) (by kernel_rfl) (by kernel_rfl) (by kernel_rfl) hrbs hrW fun w1 w2 H e _ => ?_
      subst e
      refine ⟨?_, hOE H _⟩
      rw [hp, J.fold]
      have h1 : ¬ checkM ((outsP done cur has).map PG.m) = 0 := by simpa using h1
      show ParseQ (if checkM ((outsP done cur has).map PG.m) = 0 then _ else _) _ _ _
      rw [if_neg h1]
      rfl
    · refine Hs.run0 300 (fun _ => by kernel_rfl) ?_
      refine Hs.retCB (r := r) (v := .tuple #[.slice A n c, .int .i64 0]) Tryz.func17 (by kernel_rfl) (by kernel_rfl) (by kernel_rfl) (by kernel_rfl) hrbs hrW fun w1 w2 H e _ => ?_
      subst e
      refine ⟨?_, hOE H _⟩
      rw [hp, J.fold]
      have h1 : checkM ((outsP done cur has).map PG.m) = 0 := by simpa using h1
      show ParseQ (if checkM ((outsP done cur has).map PG.m) = 0 then _ else _) _ _ _
      rw [if_pos h1]
      have hst := progs_st (z := ⟨done, cur, has, A, c, n, j⟩) J.st A c
      have hq := hP _ w1 H (by kernel_rfl) (by kernel_rfl)
      have hsz : w1.heap.size ≤ (w1.putObj r (.deferred none)).heap.size := (only_put w1 r _).size
      have hW1 := Nat.le_trans hOp.size H.only.size
      have hmem : ∀ y ∈ (A.map (·.block)).toList ++ ((cur.A.map (·.block)).toList ++ fp), y ∈ bs ++ fp := fun y hy => by
        rcases List.mem_append.1 hy with h | h
        · refine List.mem_append.2 (.inl ?_)
          rw [J.hb]
          have h : A.map (·.block) = some y := Option.mem_toList.1 h
          exact wrN_mem.2 ⟨3, .s A c n 33 2 ((outsP done cur has).flatMap cPG), 0, rfl, rfl, rfl, h⟩
        rcases List.mem_append.1 h with h | h
        · refine List.mem_append.2 (.inl ?_)
          rw [J.hb]
          have h : cur.A.map (·.block) = some y := Option.mem_toList.1 h
          exact wrN_mem.2 ⟨4, .s cur.A cur.c j 36 4 (cur.ops.flatMap cOP), 0, rfl, rfl, rfl, h⟩
        · exact List.mem_append.2 (.inr h)
      refine ⟨outsP done cur has, A, c, _, by rw [hn], rfl, hst _ _ hsz (fun y hy => World.putObj_heap_other (J.far y (hmem y hy)).2.1) hq, hst, fun y hy => ?_⟩
      have hf := J.far y (hmem y hy)
      exact ⟨hf.2.2.2.1, by omega⟩
  exact key.go _ H0 (by kernel_rfl)
end
end Go.Proofs.YtmmcamkmglpgiaaGreatDoor

namespace Go.Proofs.YtmmcamkmglpgiaaGreatDoor
open Go.RowKit Go.Shelf
set_option linter.all false
set_option maxRecDepth 100000
def qP (Bs : Nat) (s : List UInt8) : HB := .q true (some ⟨Bs, 0, none⟩) (fun w => Blk w Bs 9 [.string (strL s)]) (fun w w' h1 _ h => (h1 _ rfl).trans h)
def z0P : StP := ⟨[], ⟨⟨#[]⟩, none, 0, []⟩, false, none, 0, 0, 0⟩
theorem jsP {w : World} {k : KP} (K : k.ok w) {pre : List (List UInt8)} {bs : List Nat} {A B : World} (J : JQ w k pre bs A) (hB : k.Bs ∉ bs) (O : Only [k.Bs] A B) : JQ w k pre bs B := by
  obtain ⟨z, fp, J⟩ := J
  have hlW : k.l < A.heap.size := (Array.getElem?_eq_some_iff.1 J.hl).1
  have hrW : k.r < A.heap.size := (Array.getElem?_eq_some_iff.1 J.hr).1
  have hM := J.mem
  have hm : Mem B bs k.bt z.hp B := by
    have h1 := Mem.rebaseF hM O fun i h y h1 h2 hm => by
      obtain rfl := List.mem_singleton.1 hm
      have hw : h.wr = true := by
        have := List.all_eq_true.1 (hpP_ro z.outs z.n z.A z.c z.cur z.j) h (List.mem_of_getElem? h1)
        cases h with
        | no => cases h2
        | _ => exact this
      rcases hM.own i h _ h1 hw h2 with h3 | h3
      · exact hB h3
      · have := J.BW; omega
    rwa [← J.hb] at h1
  refine ⟨z, fp, J.fold, J.ok, J.only.trans O (fun y hy => .inr (by simp at hy; subst hy; exact K.B)), J.hb, hm, J.st, J.st A B O.size (fun y hy => O.block y (J.far y (by simp [hy])).2.2.2.2 (by simp; exact (J.far y (by simp [hy])).2.2.1)) J.dn, ?_, ?_, fun y hy => ?_, J.ap, Nat.lt_of_lt_of_le J.BW O.size⟩
  · exact (O.block _ hlW (by simp; exact Ne.symm K.Bl)).trans J.hl
  · exact (O.block _ hrW (by simp; exact Ne.symm K.Br)).trans J.hr
  · have := J.far y hy
    exact ⟨this.1, this.2.1, this.2.2.1, this.2.2.2.1, Nat.lt_of_lt_of_le this.2.2.2.2 O.size⟩
theorem rangeP {s : List UInt8} {w : World} (hs : s.length ≤ 262144) (hS : SLib w) (hp : parseM s = (match foldP [] (linesB s) with
    | none => (none, 4)
    | some l => if checkM l = 0 then (some l, 0) else (none, checkM l))) (b2 b3 b4 Bs : Nat) (u : Nat → Value) : Hs Tryz.prog ⟨17, none⟩ (ParseR s w) (Tryz.f17).ntmps w [] [b2, b3, b4, 0, 0, 0] ⟨.no, rfP.todo, slP Bs u, z0P.hp ++ [qP Bs s]⟩ := by
  have hfr : ∀ ds, fr (Tryz.f17).ntmps [b2, b3, b4, 0, 0, 0] (.dfr ds (slP Bs u)) = fr (Tryz.f17).ntmps (btP b2 b3 b4) (.dfr ds (slP Bs u)) := fun ds => fr_app (Tryz.f17).ntmps [0] (β := btP b2 b3 b4) (by kernel_rfl)
  have hfr0 : fr (Tryz.f17).ntmps [b2, b3, b4, 0, 0, 0] (slP Bs u) = fr (Tryz.f17).ntmps (btP b2 b3 b4) (slP Bs u) := fr_app (Tryz.f17).ntmps [0] (β := btP b2 b3 b4) (by kernel_rfl)
  refine Hs.rangeF (g := rfP.g) (ps := rfP.ps) (assign := rfP.asg) (body := rfP.body) (k := rfP.k) (G := 52) (lb := #[.pointer (some ⟨Bs, 0, none⟩)]) (fn := Tryz.f52) ⟨rfl, rfl⟩ rfl (by kernel_rfl) Tryz.func52 (by kernel_rfl) fun w1 H => ?_
  have hB1 : Blk w1 Bs 9 [.string (strL s)] := Mem.atQ (A := some ⟨Bs, 0, none⟩) (Q := fun w => Blk w Bs 9 [.string (strL s)]) (st := fun w w' h1 _ h => (h1 _ rfl).trans h) H 5 rfl
  have hBn : w.heap.size ≤ Bs := by
    rcases H.own 5 (qP Bs s) Bs rfl rfl rfl with h | h
    · cases h
    · exact h
  have hBlt := hB1.lt
  have hO1 := H.only
  have hsz1 := hO1.size
  have K : KP.ok ⟨b2, b3, b4, Bs, w1.heap.size + 1, w1.heap.size, u⟩ w := ⟨by show w1.heap.size + 1 ≠ w1.heap.size; omega, by show Bs ≠ w1.heap.size + 1; omega, by show Bs ≠ w1.heap.size; omega, by show w.heap.size ≤ w1.heap.size + 1; omega, hsz1, hBn⟩
  let W0 : World := (w1.alloc (.deferred (some []))).alloc (.loop (KP.rc ⟨b2, b3, b4, Bs, w1.heap.size + 1, w1.heap.size, u⟩ .ready none))
  have hOW : Only [] w1 W0 := ((Only.refl [] w1).alloc _).alloc _
  have hszW : W0.heap.size = w1.heap.size + 2 := by simp [W0]
  have H5 : Mem w [] (btP b2 b3 b4) z0P.hp w1 := H.sub [0, 1, 2, 3, 4] (by decide) (by kernel_rfl)
  have H6 : Mem W0 (wrN (btP b2 b3 b4) z0P.hp) (btP b2 b3 b4) z0P.hp W0 := Mem.rebaseF H5 hOW (by simp)
  have hwr : ∀ y ∈ wrN (btP b2 b3 b4) z0P.hp, w.heap.size ≤ y ∧ y < w1.heap.size ∧ y ≠ Bs := fun y hy => by
    have h1 := H5.wrN_lt y hy
    obtain ⟨i, h, b, e1, e2, e3, e4⟩ := wrN_mem.1 hy
    refine ⟨?_, h1, fun e => ?_⟩
    · rcases H5.own i h y e1 e3 (by rw [nm_get e2]; exact e4) with h | h
      · cases h
      · exact h
    · have hi5 : i < 5 := (List.getElem?_eq_some_iff.1 e1).1
      have hn : nm [b2, b3, b4, 0, 0, 0] i = nm (btP b2 b3 b4) i := by
        have h3 : i = 0 ∨ i = 1 ∨ i = 2 ∨ i = 3 ∨ i = 4 := by omega
        rcases h3 with rfl | rfl | rfl | rfl | rfl <;> rfl
      have e5 : (z0P.hp ++ [qP Bs s])[i]? = some h := by rw [List.getElem?_append_left hi5]; exact e1
      have := H.inj i 5 h (qP Bs s) y e5 rfl (by rw [hn, nm_get e2]; exact e4) (by rw [e]; rfl)
      omega
  have J0 : JQ w ⟨b2, b3, b4, Bs, w1.heap.size + 1, w1.heap.size, u⟩ [] (wrN (btP b2 b3 b4) z0P.hp) W0 := by
    refine ⟨z0P, [], rfl, ⟨rfl, rfl, Nat.le_refl _, Nat.le_refl _⟩, hO1.trans hOW (by simp), rfl, H6, (fun _ _ _ _ _ => by intro y hy; cases hy), (by intro y hy; cases hy), ?_, ?_, fun y hy => ?_, by simp, by rw [hszW]; show Bs < _; omega⟩
    · exact (congrArg _ (by simp : w1.heap.size + 1 = (w1.alloc (.deferred (some []))).heap.size)).trans (heap_alloc_new (w1.alloc (.deferred (some []))) _)
    · refine (Below.heap_alloc _ _ _ (by simp)).trans (heap_alloc_new w1 _)
    · rw [List.append_nil] at hy
      have := hwr y hy
      rw [hszW]
      exact ⟨by show y ≠ w1.heap.size + 1; omega, by show y ≠ w1.heap.size; omega, this.2.2, this.1, by omega⟩
  have hBW : Blk W0 Bs 9 [.string (strL s)] := hB1.only hOW (by simp)
  refine ⟨fun W => ∃ bs, JQ w ⟨b2, b3, b4, Bs, w1.heap.size + 1, w1.heap.size, u⟩ (linesB s) bs W, JX w ⟨b2, b3, b4, Bs, w1.heap.size + 1, w1.heap.size, u⟩ s, ?_, ?_, ?_⟩
  · rw [show fr (Tryz.f17).ntmps [b2, b3, b4, 0, 0, 0] (SM.sl ⟨.no, rfP.todo, slP Bs u, z0P.hp ++ [qP Bs s]⟩) = fr (Tryz.f17).ntmps (btP b2 b3 b4) (slP Bs u) from hfr0]
    refine (lines_stops 1 (Nat.le_refl 1) (w1.heap.size + 1) Bs s (by omega) W0 (JQ w ⟨b2, b3, b4, Bs, w1.heap.size + 1, w1.heap.size, u⟩) (JX w ⟨b2, b3, b4, Bs, w1.heap.size + 1, w1.heap.size, u⟩ s) (wrN (btP b2 b3 b4) z0P.hp) (by rw [hBW.cell]; rfl) (hBW.frozen 0) (by omega) (fun h => (hwr Bs h).2.2 rfl) (fun pre bs A B J hb O => jsP K J hb O) (fun pre x bs W1 ht J => ?_) J0).mono ?_
    · obtain ⟨t, ht⟩ := ht
      obtain ⟨z, fp, J⟩ := J
      exact roundP hs hS K J ht
    · rintro e W' ⟨hv, ⟨bs, h, _⟩ | h⟩
      · exact ⟨hv, .inl ⟨bs, h⟩⟩
      · exact ⟨hv, .inr h⟩
  · rintro W' ⟨bs, z, fp, J⟩
    refine ⟨?_, ?_⟩
    · rw [show fr (Tryz.f17).ntmps [b2, b3, b4, 0, 0, 0] (SM.sl ⟨.no, rfP.todo, slP Bs u, z0P.hp ++ [qP Bs s]⟩) = fr (Tryz.f17).ntmps (btP b2 b3 b4) (slP Bs u) from hfr0]
      exact J.hl
    · exact goodEndP hp K J _
  · intro W' J
    refine ⟨?_, ?_⟩
    · rw [show fr (Tryz.f17).ntmps [b2, b3, b4, 0, 0, 0] (SM.sl ⟨.no, rfP.todo, slP Bs u, z0P.hp ++ [qP Bs s]⟩) = fr (Tryz.f17).ntmps (btP b2 b3 b4) (slP Bs u) from hfr0]
      exact J.hl
    · exact badEndP hp K J _
theorem textE_l (s : List UInt8) : textE (strL s) = !s.isEmpty := by
  unfold textE
  rw [str_cmp0]
theorem parse_any19 (s : List UInt8) (w : World) (hS : SLib w) : Calls Tryz.prog 17 #[.string (strL s)] w (ParseR s w) := by
  refine Hs.enter Tryz.func17 [] [] [] [.c (.v (.string (strL s)))] (Mem.start0 w) (by kernel_rfl) (by kernel_rfl) ?_
  refine Hs.run2 300 (fun _ => by kernel_rfl) fun b2 b3 => ?_
  refine Hs.condP ((262144 : Int) < ((strL s).size : Int)) (by kernel_rfl) (fun h1 => ?_) (fun h1 => ?_)
  · have h1 : (262144 : Int) < (s.length : Int) := h1
    have e : parseM s = (none, 6) := by
      unfold parseM
      rw [decide_eq_true (by omega : 262144 < s.length)]
    refine Hs.run0 300 (fun _ => by kernel_rfl) ?_
    exact Hs.ret (v := .tuple #[.slice none 0 0, .int .i64 6]) Tryz.func17 (by kernel_rfl) fun w' H => ⟨by rw [e]; rfl, H.only⟩
  · have h1 : ¬ (262144 : Int) < (s.length : Int) := h1
    have hs : s.length ≤ 262144 := by omega
    have fin : ∀ hb : (!s.isEmpty && !endsN s) = false, ∀ (b4 : Nat) (Bs : Nat) (u : Nat → Value), Hs Tryz.prog ⟨17, none⟩ (ParseR s w) (Tryz.f17).ntmps w [] [b2, b3, b4, 0, 0, 0] ⟨.no, rfP.todo, slP Bs u, z0P.hp ++ [qP Bs s]⟩ := fun hb b4 Bs u => rangeP hs hS (parse_lines hs hb) b2 b3 b4 Bs u
    refine Hs.run0 300 (fun _ => by kernel_rfl) ?_
    refine Hs.bool 17 (textE (strL s)) (by kernel_rfl) (fun h2 => ?_) (fun h2 => ?_)
    · refine Hs.rung0 [2] 300 (fun _ => by kernel_rfl) ?_
      refine Hs.callV (v := .bool (endsN s)) (fun w' H => suffix_any s (by omega) w') (by kernel_rfl) ?_
      refine Hs.rung0 [2] 300 (fun _ => by kernel_rfl) ?_
      refine Hs.cond (!endsN s) (by kernel_rfl) (fun h3 => ?_) (fun h3 => ?_)
      · have e : parseM s = (none, 4) := by
          rw [textE_l] at h2
          unfold parseM
          rw [decide_eq_false (by omega : ¬ 262144 < s.length), h2, h3]
          rfl
        refine Hs.run0 300 (fun _ => by kernel_rfl) ?_
        exact Hs.ret (v := .tuple #[.slice none 0 0, .int .i64 4]) Tryz.func17 (by kernel_rfl) fun w' H => ⟨by rw [e]; rfl, H.only⟩
      · have fin := fin (by rw [h3, Bool.and_false])
        refine Hs.run1 300 (fun _ => by kernel_rfl) fun b4 => ?_
        refine Hs.nilS 33 2 (by kernel_rfl) ?_ (by kernel_rfl)
        refine Hs.nilS 36 4 (by kernel_rfl) ?_ (by kernel_rfl)
        refine Hs.callQ (X := Nat) (fun b => some ⟨b, 0, none⟩) (fun b => .func (.func 52) #[] #[.pointer (some ⟨b, 0, none⟩)]) (fun b w => Blk w b 9 [.string (strL s)]) (fun b w w' h1 _ h => (h1 _ rfl).trans h) (fun w' H => lines_any s w') (by kernel_rfl) (by kernel_rfl) fun Bs => ?_
        refine Hs.run0 300 (fun _ => by kernel_rfl) ?_
        exact Hs.goto rfP.todo [0, 1, 2, 3, 4, 5] (z0P.hp ++ [qP Bs s]) [(2, .c (.p 0 0)), (3, .c (.p 1 0)), (4, .c (.p 2 0)), (23, .c (.v (.func (.func 52) #[] #[.pointer (some ⟨Bs, 0, none⟩)])))] (by kernel_rfl) (by decide) (by kernel_rfl) (by kernel_rfl) (fun _ => (by kernel_rfl)) (fun u => fin b4 Bs u)
    · have fin := fin (by rw [textE_l] at h2; rw [h2]; rfl)
      refine Hs.rung0 [2] 300 (fun _ => by kernel_rfl) ?_
      refine Hs.condF (by kernel_rfl) ?_
      refine Hs.run1 300 (fun _ => by kernel_rfl) fun b4 => ?_
      refine Hs.nilS 33 2 (by kernel_rfl) ?_ (by kernel_rfl)
      refine Hs.nilS 36 4 (by kernel_rfl) ?_ (by kernel_rfl)
      refine Hs.callQ (X := Nat) (fun b => some ⟨b, 0, none⟩) (fun b => .func (.func 52) #[] #[.pointer (some ⟨b, 0, none⟩)]) (fun b w => Blk w b 9 [.string (strL s)]) (fun b w w' h1 _ h => (h1 _ rfl).trans h) (fun w' H => lines_any s w') (by kernel_rfl) (by kernel_rfl) fun Bs => ?_
      refine Hs.run0 300 (fun _ => by kernel_rfl) ?_
      exact Hs.goto rfP.todo [0, 1, 2, 3, 4, 5] (z0P.hp ++ [qP Bs s]) [(2, .c (.p 0 0)), (3, .c (.p 1 0)), (4, .c (.p 2 0)), (23, .c (.v (.func (.func 52) #[] #[.pointer (some ⟨Bs, 0, none⟩)])))] (by kernel_rfl) (by decide) (by kernel_rfl) (by kernel_rfl) (fun _ => (by kernel_rfl)) (fun u => fin b4 Bs u)
end Go.Proofs.YtmmcamkmglpgiaaGreatDoor

namespace Go.Proofs.YtmmcamkmglpgiaaGreatDoor
open Go.RowKit Go.MapKept
set_option linter.all false
set_option maxRecDepth 100000
def t19a : List UInt8 := [112, 114, 111, 103, 32, 97, 10, 111, 117, 116, 32, 104, 105, 92, 48, 97, 10, 101, 120, 105, 116, 32, 51, 10]
def t19b : List UInt8 := [112, 114, 111, 103, 32, 97, 10, 102, 111, 114, 107, 32, 48, 10]
def l19a : List PM := [(strL [97], [⟨2, 0, 0, strL [104, 105, 10]⟩, ⟨1, 3, 0, strL []⟩])]
def l19b : List PM := [(strL [97], [⟨5, 0, 0, strL []⟩])]
theorem fold_a : foldP [] (linesB t19a) = some l19a := by kernel_rfl
theorem fold_b : foldP [] (linesB t19b) = some l19b := by kernel_rfl
theorem check_a : checkM l19a = 0 := by kernel_rfl
theorem check_b : checkM l19b = 2 := by kernel_rfl
theorem work_a : workM l19a 0 = 2 := by kernel_rfl
theorem parse_a : parseM t19a = (some l19a, 0) := by
  rw [parse_lines (by decide) (by kernel_rfl), fold_a]
  show (if checkM l19a = 0 then (some l19a, (0 : Int)) else (none, checkM l19a)) = _
  rw [if_pos check_a]
theorem parse_b : parseM t19b = (none, 2) := by
  rw [parse_lines (by decide) (by kernel_rfl), fold_b]
  show (if checkM l19b = 0 then (some l19b, (0 : Int)) else (none, checkM l19b)) = _
  rw [check_b]
  rfl
end Go.Proofs.YtmmcamkmglpgiaaGreatDoor

namespace Go.Proofs.YtmmcamkmglpgiaaGreatDoor
open Go.RowKit Go.MapKept
set_option linter.all false
set_option maxRecDepth 100000
abbrev PsQ (l : List PM) (z : PX) (w : World) : Prop := Pgs w z.1 z.2.1 z.2.2 ∧ z.2.2.map PG.m = l
theorem parse_new (s : List UInt8) (w : World) (hS : SLib w) {l : List PM} {i : Int} (h : parseM s = (some l, i)) : Calls Tryz.prog 17 #[.string (strL s)] w (NewX w (fun z : PX => .tuple #[.slice z.1 l.length z.2.1, .int .i64 i]) (PsQ l)) := by
  refine (parse_any19 s w hS).mono ?_
  rintro e w' ⟨hq, O⟩
  rw [h] at hq
  obtain ⟨ps, A, c, fp, rfl, hm, hP, hst, hfp⟩ := hq
  refine ⟨(A, c, ps), by rw [← hm, List.length_map], O, fun L hL w2 O2 => ⟨?_, hm⟩⟩
  exact hst w' w2 O2.size (fun y hy => O2.block y (hfp y hy).2 fun hm => by have := hL y hm; have := (hfp y hy).1; omega) hP
theorem parse_bad (s : List UInt8) (w : World) (hS : SLib w) {i : Int} (h : parseM s = (none, i)) : Calls Tryz.prog 17 #[.string (strL s)] w fun e w' => e = .returned (.tuple #[.slice none 0 0, .int .i64 i]) ∧ Only [] w w' := by
  refine (parse_any19 s w hS).mono ?_
  rintro e w' ⟨hq, O⟩
  rw [h] at hq
  exact ⟨hq, O⟩
theorem alive_any19 (w : World) (hS : SLib w) : Calls Tryz.prog 6 #[] w (RetB true w) := by
  refine Hs.enter Tryz.func6 [] [] [] [] (Mem.start0 w) (by kernel_rfl) (by kernel_rfl) ?_
  refine Hs.run0 300 (fun _ => by kernel_rfl) ?_
  refine Hs.callM (Nx.start w) (fun w' H => parse_new t19a w' (hS.only H.only) parse_a) (by kernel_rfl) (by kernel_rfl) fun z w1 L1 N => ?_
  obtain ⟨A, c, ps⟩ := z
  obtain ⟨hP, hm⟩ := (N.keeps w1 (Only.refl _ _)).1
  dsimp only at hP hm
  obtain ⟨⟨xn, xA, xc, xo⟩, hps⟩ : ∃ x, ps = [x] := by
    have h := congrArg List.length hm
    rw [List.length_map] at h
    exact List.length_eq_one_iff.1 h
  subst hps
  have hm2 : [(xn, xo)] = l19a := hm
  unfold l19a at hm2
  injection hm2 with hm2 _
  injection hm2 with e1 e2
  subst e1
  subst e2
  obtain ⟨ab, aoff, hA, _, _⟩ := hP.rd (by show 0 < 1; decide)
  obtain ⟨ob, ooff, hO, _, _⟩ := (hP.all _ (List.mem_singleton.2 rfl)).1 (by show 0 < 2; decide)
  dsimp only at hO
  subst hA
  subst hO
  have hN : ∀ {β : List Nat} {hp : List HB} {w' : World}, Mem w1 L1 β hp w' → Pgs w' (some ⟨ab, aoff, none⟩) c [⟨strL [97], some ⟨ob, ooff, none⟩, xc, [⟨2, 0, 0, strL [104, 105, 10]⟩, ⟨1, 3, 0, strL []⟩]⟩] := fun H => (N.now H).1.1
  refine Hs.run0 300 (fun _ => by kernel_rfl) ?_
  refine Hs.callV (v := .tuple #[.slice none 0 0, .int .i64 2]) (fun w' H => parse_bad t19b w' (hS.only (N.only H)) parse_b) (by kernel_rfl) ?_
  refine Hs.run0 300 (fun _ => by kernel_rfl) ?_
  refine Hs.rung0 [2, 7] 300 (fun _ => by kernel_rfl) ?_
  refine Hs.idx (b := ab) (off := aoff) (len := 1) (c := c) (i := 0) elemPr (by decide) (by kernel_rfl) ?_
  refine Hs.rung0 [2, 7] 300 (fun _ => by kernel_rfl) ?_
  refine Hs.ldc (E' := 31) (b := ab) (off := aoff + 0 * 2 + 1) (.slice (some ⟨ob, ooff, none⟩) 2 xc) (by kernel_rfl) (fun w' H => rdX_cell cPG_len (hN H).rd (i := 0) rfl (j := 1) rfl) (by kernel_rfl) ?_
  refine Hs.rung0 [2, 7, 15] 300 (fun _ => by kernel_rfl) ?_
  refine Hs.idx (b := ab) (off := aoff) (len := 1) (c := c) (i := 0) elemPr (by decide) (by kernel_rfl) ?_
  refine Hs.rung0 [2, 7, 15] 300 (fun _ => by kernel_rfl) ?_
  refine Hs.ldc (E' := 31) (b := ab) (off := aoff + 0 * 2 + 1) (.slice (some ⟨ob, ooff, none⟩) 2 xc) (by kernel_rfl) (fun w' H => rdX_cell cPG_len (hN H).rd (i := 0) rfl (j := 1) rfl) (by kernel_rfl) ?_
  refine Hs.rung0 [2, 7, 15] 300 (fun _ => by kernel_rfl) ?_
  refine Hs.idx (b := ob) (off := ooff) (len := 2) (c := xc) (i := 0) elemPo (by decide) (by kernel_rfl) ?_
  refine Hs.rung0 [2, 7, 15] 300 (fun _ => by kernel_rfl) ?_
  refine Hs.ldc (E' := 9) (b := ob) (off := ooff + 0 * 4 + 3) (.string (strL [104, 105, 10])) (by kernel_rfl) (fun w' H => rdX_cell cOP_len ((hN H).all _ (List.mem_singleton.2 rfl)).1 (i := 0) rfl (j := 3) rfl) (by kernel_rfl) ?_
  refine Hs.rung0 [2, 7, 15, 25, 29] 300 (fun _ => by kernel_rfl) ?_
  have hC : ∀ {β : List Nat} {hp : List HB} {w' : World}, Mem w1 L1 β hp w' → Calls Tryz.prog 11 #[.slice (some ⟨ab, aoff, none⟩) 1 c, .int .i64 0] w' fun e w2 => e = .returned (.int .i64 2) ∧ Only [] w' w2 := fun {β hp w'} H => by
    have := work_any19 [⟨strL [97], some ⟨ob, ooff, none⟩, xc, [⟨2, 0, 0, strL [104, 105, 10]⟩, ⟨1, 3, 0, strL []⟩]⟩] (some ⟨ab, aoff, none⟩) c 0 w' (hN H)
    rw [show workM (List.map PG.m [⟨strL [97], some ⟨ob, ooff, none⟩, xc, [⟨2, 0, 0, strL [104, 105, 10]⟩, ⟨1, 3, 0, strL []⟩]⟩]) 0 = 2 from work_a] at this
    exact this
  refine Hs.callV (v := .int .i64 2) (fun w' H => hC H) (by kernel_rfl) ?_
  refine Hs.rung0 [2, 7, 15, 25, 29] 300 (fun _ => by kernel_rfl) ?_
  exact Hs.ret (v := .bool true) Tryz.func6 (by kernel_rfl) fun w' H => ⟨rfl, N.only H⟩
end Go.Proofs.YtmmcamkmglpgiaaGreatDoor

namespace Go.Proofs.YtmmcamkmglpgiaaGreatDoor
open Go.Shelf Go.RowKit Go.Lib
set_option linter.all false
set_option maxRecDepth 100000
theorem star19 : "*" ++ "errors.errorString" = "*errors.errorString" := by decide
theorem errRow19 (u : TypeId) (h : Tryz.prog.typeName? 3 u = some "*errors.errorString") : u = 193 :=
  typeName_ptr_named (nm := "errors.errorString") (by rw [star19]; kernel_rfl) (by kernel_rfl) (by decide) u (by rw [star19]; exact h)
theorem slib_laid {W : World} {d1 d2 d3 : String × DataW Unit} {r : List (String × DataW Unit)} (hL : laidMet Tryz.prog (d1 :: d2 :: ("internal/strconv.uint64pow10", tabData .u64 Lib.pow10Tab) :: d3 :: ("strconv.ErrRange", .iface "*errors.errorString" (.ptr (.agg [.lit (.string [118, 97, 108, 117, 101, 32, 111, 117, 116, 32, 111, 102, 32, 114, 97, 110, 103, 101])]))) :: ("strconv.ErrSyntax", .iface "*errors.errorString" (.ptr (.agg [.lit (.string [105, 110, 118, 97, 108, 105, 100, 32, 115, 121, 110, 116, 97, 120])]))) :: r) W) {m : Int} (hm : W.cell? ⟨0, 0, none⟩ = some (.int .i64 m)) : SLib W := by
  obtain ⟨a0, s0, hv0, -, -, -⟩ := laid_sentinel (g := 3) (ti := 67) (tp := 193) (te := 195) (ts := 9) hL.tail.tail.tail.tail (by kernel_rfl) (by kernel_rfl) Tryz.underlying67 errRow19 Tryz.underlying193 Tryz.underlying195 rfl rfl Tryz.underlying9 (by kernel_rfl) (by kernel_rfl)
  obtain ⟨a1, s1, hv1, -, -, -⟩ := laid_sentinel (g := 2) (ti := 67) (tp := 193) (te := 195) (ts := 9) hL.tail.tail.tail.tail.tail (by kernel_rfl) (by kernel_rfl) Tryz.underlying67 errRow19 Tryz.underlying193 Tryz.underlying195 rfl rfl Tryz.underlying9 (by kernel_rfl) (by kernel_rfl)
  exact ⟨⟨_, _, hv1⟩, ⟨_, _, hv0⟩, tabIs_of_head (g := 1) (t := 173) (e := 147) (n := 20) (by kernel_rfl) (by kernel_rfl) Tryz.underlying173 Tryz.underlying147 (by kernel_rfl) (by kernel_rfl) hL.tail.tail, ⟨m, hm⟩⟩
theorem slib_work {W : World} (hL : laidMetH Tryz.prog Rows.programWorkRow.laid W) {m : Int} (hm : W.cell? ⟨0, 0, none⟩ = some (.int .i64 m)) : SLib W := by
  rw [MakeChecks.laidMetH_plain _ _ _ (by kernel_rfl)] at hL
  exact slib_laid hL hm
end Go.Proofs.YtmmcamkmglpgiaaGreatDoor

namespace Go.Proofs.YtmmcamkmglpgiaaGreatDoor
set_option linter.all false
def U32 (n : Int) : Prop := 0 ≤ n ∧ n ≤ 4294967295
end Go.Proofs.YtmmcamkmglpgiaaGreatDoor

namespace Go.Proofs.YtmmcamkmglpgiaaGreatDoor
set_option linter.all false
open Go.ChangeShapes Go.WideShapes Go.ChangeAt Go.RowKit Go.Deep

section
variable {H : Type} {enc : TypeId × Value → H} {P : Program} {w : World} {base : Nat} {spare : Nat → Bool} {held : Bool}
theorem agg_int {k : IntKind} {n : Nat} {t : TypeId} {c : Value} {y : DataW H × List MemPlace} (ht : P.underlying t = some (.int k)) (h : DataW.trod enc P w base spare held n t [c] = some y) : ∃ a, c = .int k a ∧ (Lit.int k a).wf = true := by
  obtain ⟨a, e, _, wa⟩ := DataW.trod_int ht h
  exact ⟨a, by simpa using e, wa⟩
def FieldsAt (enc : TypeId × Value → H) (P : Program) (w : World) (base : Nat) (spare : Nat → Bool) (held : Bool) (n : Nat) (fs : Array Field) (l : List Value) : Prop :=
  ∀ (j : Nat) (f : Field), fs[j]? = some f → ∃ y, DataW.trod enc P w base spare held n f.type ((l.drop f.offset).take (P.cellsOf f.type)) = some y
theorem trod_fields {n : Nat} {t : TypeId} {fs : Array Field} {l : List Value} {y : DataW H × List MemPlace} (hs : P.underlying t = some (.struct fs)) (h : DataW.trod enc P w base spare held n t l = some y) : ∃ n', FieldsAt enc P w base spare held n' fs l := by
  obtain ⟨ys, n', _, _, _, hyl, hg⟩ := DataW.trod_struct hs h
  refine ⟨n', fun j f hj => ?_⟩
  have hjl : j < fs.size := (Array.getElem?_eq_some_iff.1 hj).1
  exact ⟨ys[j]'(by omega), (hg j f hj).trans (List.getElem?_eq_getElem (by omega))⟩
theorem FieldsAt.at_ {n : Nat} {fs : Array Field} {l l' : List Value} (h : FieldsAt enc P w base spare held n fs l) (j : Nat) (T : TypeId) (off k : Nat) (f : Field) (hj : fs[j]? = some f) (hT : f.type = T) (ho : f.offset = off) (hk : P.cellsOf T = k) (hl : (l.drop off).take k = l') :
    ∃ y, DataW.trod enc P w base spare held n T l' = some y := by
  obtain ⟨y, hy⟩ := h j f hj
  rw [hT, ho, hk, hl] at hy
  exact ⟨y, hy⟩
/-- A struct that is handed in: its cells, its fields. -/
theorem open_struct {r : Reach} {b0 : Nat} {t : TypeId} {fs : Array Field} {v : Value} {d : DataW H} {p : List MemPlace} {k : Nat} (hs : P.underlying t = some (.struct fs)) (hC : P.cellsOf t = k)
    (hv : Value.okWide P w r b0 t v) (h : DataW.Trod enc P w base spare held t v d p) : ∃ (l : List Value) (n : Nat), v = .agg l.toArray ∧ l.length = k ∧ FieldsAt enc P w base spare held n fs l := by
  obtain ⟨cs, rfl, hsz⟩ := okWide_struct hs hv
  obtain ⟨l⟩ := cs
  obtain ⟨fuel, hf⟩ := h
  obtain ⟨n, hn⟩ := trod_fields hs hf
  have hcs : (Value.agg ⟨l⟩).cells.toList = l := by simp [Value.cells]
  rw [hcs] at hn
  exact ⟨l, n, rfl, by simpa using hsz.trans hC, hn⟩
theorem aggP_ints {k : IntKind} {n : Nat} {t e : TypeId} {c : Value} {y : DataW H × List MemPlace} (ht : P.underlying t = some (.slice e)) (he : P.underlying e = some (.int k)) (hc : P.cellsOf e = 1) (h : DataW.trod enc P w base spare held n t [c] = some y) :
    ∃ A len cap zs, c = .slice A len cap ∧ len ≤ cap ∧ cap ≤ maxLen ∧ Ints k w A len zs := by
  rcases Go.ChangeShapes.open_ints ht he hc h with ⟨hcs, _⟩ | ⟨a, l, c', zs, hcs, _, hl, hm, hz, _, hcell, hwz⟩
  · simp at hcs
    subst hcs
    exact ⟨none, 0, 0, [], rfl, Nat.le_refl _, Nat.zero_le _, rfl, Nat.zero_le _, by simp, by simp⟩
  · simp at hcs
    subst hcs
    have hlz : l ≤ zs.length := by split at hz <;> omega
    refine ⟨some a, l, c', zs.take l, rfl, hl, hm, by simp; omega, by omega, fun n hn => hwz n (List.mem_of_mem_take hn), fun h0 => ?_⟩
    obtain ⟨b, off, rfl, hc'⟩ := ints_at hcell (by omega)
    refine ⟨b, off, rfl, World.block_lt_of_cell? w _ (hc' 0 (by omega)), fun i hi => ?_⟩
    rw [hc' i (by omega)]
    simp [List.getD_eq_getElem?_getD, List.getElem?_take, hi]
theorem agg_strP {n : Nat} {t : TypeId} {c : Value} {y : DataW H × List MemPlace} (ht : P.underlying t = some .string) (h : DataW.trod enc P w base spare held n t [c] = some y) : ∃ s : ByteArray, c = .string s ∧ s.size ≤ maxLen := by
  obtain ⟨s, h1, _, h3⟩ := DataW.trod_string ht h
  exact ⟨s, by simpa using h1, h3⟩
theorem agg_boolP {n : Nat} {t : TypeId} {c : Value} {y : DataW H × List MemPlace} (ht : P.underlying t = some .bool) (h : DataW.trod enc P w base spare held n t [c] = some y) : ∃ b : Bool, c = .bool b := by
  obtain ⟨b, h1, _⟩ := DataW.trod_bool ht h
  exact ⟨b, by simpa using h1⟩
/-- Bytes in a field. -/
theorem agg_bytes {n : Nat} {t e : TypeId} {c : Value} {y : DataW H × List MemPlace} (ht : P.underlying t = some (.slice e)) (he : P.underlying e = some (.int .u8)) (hc : P.cellsOf e = 1) (h : DataW.trod enc P w base spare held n t [c] = some y) :
    ∃ (A : Option Addr) (cap : Nat) (zs : List Int), c = .slice A zs.length cap ∧ zs.length ≤ cap ∧ cap ≤ maxLen ∧ RdG (.int .u8) w A zs ∧ ∀ x ∈ zs, 0 ≤ x ∧ x < 256 := by
  obtain ⟨A, len, cap, zs, rfl, hlc, hcm, hz1, hz2, hz3, hz4⟩ := aggP_ints ht he hc h
  subst hz1
  refine ⟨A, cap, zs, rfl, hlc, hcm, fun h0 => ?_, fun x hx => ?_⟩
  · obtain ⟨b', off', e, hlt, hcc⟩ := hz4 (by omega)
    refine ⟨b', off', e, hlt, fun j v hj => ?_⟩
    have hj' : j < zs.length := (List.getElem?_eq_some_iff.1 hj).1
    rw [hcc j (by omega), List.getD_eq_getElem?_getD, hj]
    rfl
  · have := hz3 x hx
    have := wf_u8 this
    omega

theorem list_of {α : Type} {p : Nat → α → Prop} : ∀ n, (∀ i, i < n → ∃ x, p i x) → ∃ l : List α, l.length = n ∧ ∀ i x, l[i]? = some x → p i x
  | 0, _ => ⟨[], rfl, fun i x h => by simp at h⟩
  | n + 1, h => by
    obtain ⟨l, hl, hp⟩ := list_of n fun i hi => h i (by omega)
    obtain ⟨x, hx⟩ := h n (by omega)
    refine ⟨l ++ [x], by simp [hl], fun i y hy => ?_⟩
    rcases Nat.lt_or_ge i l.length with h1 | h1
    · rw [List.getElem?_append_left h1] at hy; exact hp i y hy
    · rw [List.getElem?_append_right h1] at hy
      have h2 : i - l.length = 0 := by
        rcases Nat.eq_zero_or_pos (i - l.length) with h2 | h2
        · exact h2
        · rw [List.getElem?_eq_none (by simp; omega)] at hy; cases hy
      rw [h2] at hy
      simp at hy
      subst hy
      have e : i = n := by omega
      rw [e]; exact hx
/-- A slice whose elements are opened by hel. -/
theorem open_rdX {α : Type} {cf : α → List Value} {ok : α → Prop} {t e : TypeId} {size : Nat} {v : Value} {d : DataW H} {p : List MemPlace} {r : Reach} {b0 : Nat} (ht : P.underlying t = some (.slice e)) (hC : P.cellsOf e = size) (h0 : 0 < size) (hcl : ∀ x, (cf x).length = size)
    (hel : ∀ (n : Nat) (l : List Value) (y : DataW H × List MemPlace), l.length = size → DataW.trod enc P w base spare held n e l = some y → ∃ x : α, l = cf x ∧ ok x)
    (hv : Value.okWide P w r b0 t v) (h : DataW.Trod enc P w base spare held t v d p) : ∃ (A : Option Addr) (l : List α) (cap : Nat), v = .slice A l.length cap ∧ l.length ≤ cap ∧ cap ≤ maxLen ∧ RdX cf w A l ∧ ∀ x ∈ l, ok x := by
  obtain ⟨a0, len, cap, rfl⟩ := okWide_slice ht hv
  obtain ⟨fuel, hf⟩ := h
  rcases open_slice ht hf with ⟨hcs, _⟩ | ⟨a, l, c, m, n, D, Pl, hcs, _, hlc, hm, hmm, _, hi⟩
  · simp [Value.cells] at hcs
    obtain ⟨rfl, rfl, rfl⟩ := hcs
    exact ⟨none, [], 0, rfl, Nat.le_refl _, Nat.zero_le _, rdX_nil, fun x hx => by cases hx⟩
  · simp [Value.cells] at hcs
    obtain ⟨rfl, rfl, rfl⟩ := hcs
    have hlm : len ≤ m := by rw [hmm]; split <;> omega
    obtain ⟨xs, hxl, hx⟩ := list_of (p := fun i (x : α) => ok x ∧ ∀ j u, (cf x)[j]? = some u → w.cell? (a.add (i * size + j)) = some u) len (fun i hi1 => by
      obtain ⟨cs', hc, ht'⟩ := hi i (by omega)
      obtain ⟨_, hcl', hat⟩ := World.cells?_some hc
      rw [hC] at hcl' hat
      obtain ⟨x, rfl, hok⟩ := hel _ _ _ hcl' ht'
      refine ⟨x, hok, fun j u hu => ?_⟩
      have hj : j < size := by have := (List.getElem?_eq_some_iff.1 hu).1; omega
      rw [← Go.Deep.add_add]
      exact (hat j hj).trans hu)
    subst hxl
    refine ⟨some a, xs, cap, rfl, hlc, hm, fun hl0 => ?_, fun x hx1 => ?_⟩
    · have h00 : ∃ u, w.cell? (a.add 0) = some u := by
        have hx0 := hx 0 (xs[0]'hl0) (List.getElem?_eq_getElem hl0)
        have h1 : (cf (xs[0]'hl0))[0]? = some ((cf (xs[0]'hl0))[0]'(by rw [hcl]; exact h0)) := List.getElem?_eq_getElem _
        exact ⟨_, by simpa using hx0.2 0 _ h1⟩
      obtain ⟨u0, hu0⟩ := h00
      have hadd0 : a.add 0 = a := by unfold Addr.add; simp
      rw [hadd0] at hu0
      have hs : a.spot = none := by
        unfold World.cell? at hu0
        split at hu0
        · split at hu0
          · cases hu0
          · rename_i h1; simpa using h1
        · cases hu0
      obtain ⟨b, off, sp⟩ := a
      simp at hs
      subst hs
      refine ⟨b, off, rfl, World.block_lt_of_cell? w _ hu0, fun j u hu => ?_⟩
      have key : ∀ (l : List α) (j : Nat) (u : Value), (l.flatMap cf)[j]? = some u → ∃ i x k, l[i]? = some x ∧ (cf x)[k]? = some u ∧ j = i * size + k := by
        intro l
        induction l with
        | nil => intro j u h; simp at h
        | cons y ys ih =>
          intro j u h
          rw [List.flatMap_cons] at h
          rcases Nat.lt_or_ge j (cf y).length with h1 | h1
          · rw [List.getElem?_append_left h1] at h
            exact ⟨0, y, j, rfl, h, by simp⟩
          · rw [List.getElem?_append_right h1] at h
            obtain ⟨i, x, k, h2, h3, h4⟩ := ih _ _ h
            refine ⟨i + 1, x, k, by simpa using h2, h3, ?_⟩
            rw [hcl] at h1 h4
            rw [Nat.succ_mul]; omega
      obtain ⟨i, x, k, h2, h3, rfl⟩ := key xs j u hu
      have := (hx i x h2).2 k u h3
      rw [Addr.add_mid] at this
      exact this
    · obtain ⟨i, hi1⟩ := List.mem_iff_getElem?.1 hx1
      exact (hx i x hi1).1
end
end Go.Proofs.YtmmcamkmglpgiaaGreatDoor

namespace Go.Proofs.YtmmcamkmglpgiaaGreatDoor
set_option linter.all false
open Go.ChangeShapes Go.WideShapes Go.ChangeAt Go.RowKit Go.Deep

/-- What the walk of a law is handed: the arguments read as data, and how much each takes. -/
def LawWalkS (P : Program) (f : FuncId) (fn : Func) : Prop :=
  ∀ (H : Type) (enc : TypeId × Value → H) (W : World) (base : Nat) (args : Array Value) (ds : List (DataW H)) (ps : List MemPlace),
    (∀ (j : Nat) t v, fn.params[j]? = some t → args[j]? = some v → Value.okWide P W .any base t v) →
    DataW.TrodAll enc P W 0 (fun _ => true) true fn.params.toList args.toList ds ps →
    (DataW.weightsEach P fn.params.toList ds).all (· ≤ reachBytes) = true →
    Calls P f args W fun e W' => e = .returned (.bool true) ∧ Below W.heap.size W W'

theorem law_liftedS {C : Checked} {tb : TypeId} (own : ownKnob C.prog.godebug = none) (laidOut : laidOutB C.prog = true) (hb : C.prog.underlying tb = some .bool) (f : FuncId) (fn : Func) (s : ChangeSpec)
    (hfn : C.prog.funcs[f]? = some fn) (noInit : C.prog.inits.idxOf? f = none) (hres : fn.resultTypes = #[tb])
    (hread : readsAll C.prog fn.params.toList = true) (hv : s.vars = [])
    (hs : ∀ (H : Type) (ds : List (DataW H)), ds.length = fn.params.size → s.fn H ds = { results := [.lit (.bool true)], args := ds })
    (walk : LawWalkS C.prog f fn) (os : Os) (started : os.Started) (H : Type) (enc : TypeId × Value → H)
    (witness : ∃ (w : World) (tape : Tape) (i : Input), w.os = os ∧ (w.forCall tape i).Shaped C.prog ∧ i.vars = [] ∧ Input.okWide C.prog (w.forCall tape i) .any w.heap.size f i ∧
      s.pre6 enc C.prog fn [] false (w.forCall tape i).memory i.args ∧ Assume.holds {} C.prog (lone (Frame.enter C.prog f i.args .normal) [] (w.forCall tape i))) :
    ReturnsInHanded {} C os f .any (s.pre6 enc C.prog fn [] false) (s.post enc C.prog fn false true false false) := by
  refine returnsInHanded_of_change_sized own started noInit hfn witness ?_
  intro W base args ds gs before hval hW hcnd hsz _
  have hW' := hW
  obtain ⟨p, q, hA, hV, rfl, hfz, hnd⟩ := hW
  have hty : s.plain.varTypes C.prog = [] := by simp [ChangeSpec.plain, hv, DataSpec.varTypes]
  rw [hv] at hV
  obtain ⟨rfl, rfl⟩ := trodVars_none hV
  rw [hty, List.append_nil, List.append_nil] at hsz
  have hlt := DataW.TrodAll.lt hA
  have hlen : ds.length = fn.params.size := by have := trodAll_len _ _ _ _ hA; simpa using this
  have hfnc := hs H ds hlen
  refine (walk H enc W base args ds p hval hA hsz).mono fun e W' ⟨he, bel⟩ => ?_
  subst he
  refine ⟨_, rfl, ds, [], p ++ [], [], p, [], hW', ?_, ?_, ?_, bel.frame _, fun h => by cases h⟩
  · rw [hres, List.append_nil, hfnc]
    exact trodAll_mk1 (shut_bool hb _)
  · rw [List.append_nil, hfnc]
    exact trodAll_stays laidOut bel _ _ _ _ hread hA hlt
  · rw [hv, List.append_nil, hfnc]
    rfl

section
variable {H : Type} {enc : TypeId × Value → H} {P : Program} {w : World} {base : Nat} {spare : Nat → Bool} {held : Bool}
theorem agg_rdX {α : Type} {cf : α → List Value} {ok : α → Prop} {t e : TypeId} {size : Nat} {n0 : Nat} {v : Value} {y0 : DataW H × List MemPlace} (ht : P.underlying t = some (.slice e)) (hC : P.cellsOf e = size) (h0 : 0 < size) (hcl : ∀ x, (cf x).length = size)
    (hel : ∀ (n : Nat) (l : List Value) (y : DataW H × List MemPlace), l.length = size → DataW.trod enc P w base spare held n e l = some y → ∃ x : α, l = cf x ∧ ok x)
    (h : DataW.trod enc P w base spare held n0 t [v] = some y0) : ∃ (A : Option Addr) (l : List α) (cap : Nat), v = .slice A l.length cap ∧ l.length ≤ cap ∧ cap ≤ maxLen ∧ RdX cf w A l ∧ ∀ x ∈ l, ok x := by
  have hf := h
  rcases open_slice ht hf with ⟨hcs, _⟩ | ⟨a, len, cap, m, n, D, Pl, hcs, _, hlc, hm, hmm, _, hi⟩
  · simp at hcs
    subst hcs
    exact ⟨none, [], 0, rfl, Nat.le_refl _, Nat.zero_le _, rdX_nil, fun x hx => by cases hx⟩
  · simp at hcs
    subst hcs
    have hlm : len ≤ m := by rw [hmm]; split <;> omega
    obtain ⟨xs, hxl, hx⟩ := list_of (p := fun i (x : α) => ok x ∧ ∀ j u, (cf x)[j]? = some u → w.cell? (a.add (i * size + j)) = some u) len (fun i hi1 => by
      obtain ⟨cs', hc, ht'⟩ := hi i (by omega)
      obtain ⟨_, hcl', hat⟩ := World.cells?_some hc
      rw [hC] at hcl' hat
      obtain ⟨x, rfl, hok⟩ := hel _ _ _ hcl' ht'
      refine ⟨x, hok, fun j u hu => ?_⟩
      have hj : j < size := by have := (List.getElem?_eq_some_iff.1 hu).1; omega
      rw [← Go.Deep.add_add]
      exact (hat j hj).trans hu)
    subst hxl
    refine ⟨some a, xs, cap, rfl, hlc, hm, fun hl0 => ?_, fun x hx1 => ?_⟩
    · have h00 : ∃ u, w.cell? (a.add 0) = some u := by
        have hx0 := hx 0 (xs[0]'hl0) (List.getElem?_eq_getElem hl0)
        have h1 : (cf (xs[0]'hl0))[0]? = some ((cf (xs[0]'hl0))[0]'(by rw [hcl]; exact h0)) := List.getElem?_eq_getElem _
        exact ⟨_, by simpa using hx0.2 0 _ h1⟩
      obtain ⟨u0, hu0⟩ := h00
      have hadd0 : a.add 0 = a := by unfold Addr.add; simp
      rw [hadd0] at hu0
      have hs : a.spot = none := by
        unfold World.cell? at hu0
        split at hu0
        · split at hu0
          · cases hu0
          · rename_i h1; simpa using h1
        · cases hu0
      obtain ⟨b, off, sp⟩ := a
      simp at hs
      subst hs
      refine ⟨b, off, rfl, World.block_lt_of_cell? w _ hu0, fun j u hu => ?_⟩
      have key : ∀ (l : List α) (j : Nat) (u : Value), (l.flatMap cf)[j]? = some u → ∃ i x k, l[i]? = some x ∧ (cf x)[k]? = some u ∧ j = i * size + k := by
        intro l
        induction l with
        | nil => intro j u h; simp at h
        | cons y ys ih =>
          intro j u h
          rw [List.flatMap_cons] at h
          rcases Nat.lt_or_ge j (cf y).length with h1 | h1
          · rw [List.getElem?_append_left h1] at h
            exact ⟨0, y, j, rfl, h, by simp⟩
          · rw [List.getElem?_append_right h1] at h
            obtain ⟨i, x, k, h2, h3, h4⟩ := ih _ _ h
            refine ⟨i + 1, x, k, by simpa using h2, h3, ?_⟩
            rw [hcl] at h1 h4
            rw [Nat.succ_mul]; omega
      obtain ⟨i, x, k, h2, h3, rfl⟩ := key xs j u hu
      have := (hx i x h2).2 k u h3
      rw [Addr.add_mid] at this
      exact this
    · obtain ⟨i, hi1⟩ := List.mem_iff_getElem?.1 hx1
      exact (hx i x hi1).1
end
end Go.Proofs.YtmmcamkmglpgiaaGreatDoor

namespace Go.Proofs.YtmmcamkmglpgiaaGreatDoor
set_option linter.all false
open Go.ChangeShapes Go.WideShapes Go.ChangeAt Go.RowKit Go.Deep

section
variable {H : Type} {enc : TypeId × Value → H} {P : Program} {w : World} {base : Nat} {spare : Nat → Bool} {held : Bool} {R : Nat}
/-- Cells read as data, each slice of which is light. -/
def TrodW (enc : TypeId × Value → H) (P : Program) (w : World) (base : Nat) (spare : Nat → Bool) (held : Bool) (R n : Nat) (t : TypeId) (l : List Value) : Prop :=
  ∃ y, DataW.trod enc P w base spare held n t l = some y ∧ ∀ k ∈ y.1.weights P t, k ≤ R
theorem wAll_mem {e : TypeId} : ∀ {ds : List (DataW H)} {d : DataW H}, d ∈ ds → ∀ n ∈ d.weights P e, n ∈ DataW.weightsAll P e ds
  | [], _, h, _, _ => by cases h
  | x :: r, d, h, n, hn => by
    simp only [DataW.weightsAll, List.mem_append]
    rcases List.mem_cons.1 h with rfl | h
    · exact .inl hn
    · exact .inr (wAll_mem h n hn)
def FieldsW (enc : TypeId × Value → H) (P : Program) (w : World) (base : Nat) (spare : Nat → Bool) (held : Bool) (R n : Nat) (fs : Array Field) (l : List Value) : Prop :=
  ∀ (j : Nat) (f : Field), fs[j]? = some f → TrodW enc P w base spare held R n f.type ((l.drop f.offset).take (P.cellsOf f.type))
theorem TrodW.fields {n : Nat} {t : TypeId} {fs : Array Field} {l : List Value} (hs : P.underlying t = some (.struct fs)) (h : TrodW enc P w base spare held R n t l) : ∃ n', FieldsW enc P w base spare held R n' fs l := by
  obtain ⟨y, h, hW⟩ := h
  obtain ⟨ys, n', _, hx, _, hyl, hg⟩ := DataW.trod_struct hs h
  refine ⟨n', fun j f hj => ?_⟩
  have hjl : j < fs.size := (Array.getElem?_eq_some_iff.1 hj).1
  have hjy : j < ys.length := by omega
  refine ⟨ys[j], (hg j f hj).trans (List.getElem?_eq_getElem hjy), fun q hq => hW q ?_⟩
  subst hx
  simp only [DataW.weights, hs]
  exact DataW.weights_mem_each (j := j) (t := f.type) (d := (ys[j]).1) (by simp [hj]) (by simp [hjy]) q hq
theorem FieldsW.at_ {n : Nat} {fs : Array Field} {l l' : List Value} (h : FieldsW enc P w base spare held R n fs l) (j : Nat) (T : TypeId) (off k : Nat) (f : Field) (hj : fs[j]? = some f) (hT : f.type = T) (ho : f.offset = off) (hk : P.cellsOf T = k) (hl : (l.drop off).take k = l') : TrodW enc P w base spare held R n T l' := by
  have hy := h j f hj
  rw [hT, ho, hk, hl] at hy
  exact hy
theorem TrodW.int {k : IntKind} {n : Nat} {t : TypeId} {c : Value} (ht : P.underlying t = some (.int k)) (h : TrodW enc P w base spare held R n t [c]) : ∃ a, c = .int k a ∧ (Lit.int k a).wf = true := by
  obtain ⟨y, h, _⟩ := h
  exact agg_int ht h
theorem TrodW.bool {n : Nat} {t : TypeId} {c : Value} (ht : P.underlying t = some .bool) (h : TrodW enc P w base spare held R n t [c]) : ∃ b : Bool, c = .bool b := by
  obtain ⟨y, h, _⟩ := h
  exact agg_boolP ht h
theorem TrodW.str {n : Nat} {t : TypeId} {c : Value} (ht : P.underlying t = some .string) (h : TrodW enc P w base spare held R n t [c]) : ∃ s : ByteArray, c = .string s ∧ s.size ≤ maxLen ∧ s.size ≤ R := by
  obtain ⟨y, h, hW⟩ := h
  obtain ⟨s, h1, h2, h3⟩ := DataW.trod_string ht h
  refine ⟨s, by simpa using h1, h3, ?_⟩
  subst h2
  have := hW s.data.toList.length (by simp [DataW.weights])
  have e : s.data.toList.length = s.size := by rw [Array.length_toList]; rfl
  rw [e] at this
  exact this
theorem TrodW.arr {n m : Nat} {t e : TypeId} {l : List Value} (ht : P.underlying t = some (.array m e)) (h : TrodW enc P w base spare held R n t l) : ∃ n', ∀ i, i < m → TrodW enc P w base spare held R n' e ((l.drop (i * P.cellsOf e)).take (P.cellsOf e)) := by
  obtain ⟨y, h, hW⟩ := h
  obtain ⟨xs, n', _, hx, _, hxl, hg⟩ := DataW.trod_array ht h
  refine ⟨n', fun i hi => ?_⟩
  have hil : i < xs.length := by omega
  refine ⟨xs[i], (hg i hi).trans (List.getElem?_eq_getElem hil), fun q hq => hW q ?_⟩
  subst hx
  simp only [DataW.weights, ht]
  exact wAll_mem (List.mem_map.2 ⟨xs[i], List.getElem_mem hil, rfl⟩) q hq
theorem TrodW.slice {α : Type} {cf : α → List Value} {ok : α → Prop} {t e : TypeId} {size : Nat} {n0 : Nat} {v : Value} (ht : P.underlying t = some (.slice e)) (hC : P.cellsOf e = size) (h0 : 0 < size) (hcl : ∀ x, (cf x).length = size)
    (hel : ∀ (n : Nat) (l : List Value), l.length = size → TrodW enc P w base spare held R n e l → ∃ x : α, l = cf x ∧ ok x)
    (h : TrodW enc P w base spare held R n0 t [v]) : ∃ (A : Option Addr) (l : List α) (cap : Nat), v = .slice A l.length cap ∧ l.length ≤ cap ∧ cap ≤ maxLen ∧ RdX cf w A l ∧ (∀ x ∈ l, ok x) ∧ l.length * P.bytesOf e ≤ R := by
  obtain ⟨y0, h, hW⟩ := h
  rcases open_slice ht h with ⟨hcs, _⟩ | ⟨a, len, cap, m, n, D, Pl, hcs, _, hlc, hm, hmm, hx, hi⟩
  · simp at hcs
    subst hcs
    exact ⟨none, [], 0, rfl, Nat.le_refl _, Nat.zero_le _, rdX_nil, (fun x hx => by cases hx), by simp⟩
  · simp at hcs
    subst hcs
    have hlm : len ≤ m := by rw [hmm]; split <;> omega
    subst hx
    have hlw : len * P.bytesOf e ≤ R := by
      have h1 := hW (((List.range len).map D).length * P.bytesOf e + ((List.range (m - len)).map fun j => D (len + j)).length * P.bytesOf e) (by
        simp only [DataW.weights, ht]
        rw [← Nat.add_mul]
        exact List.mem_cons_self)
      simp only [List.length_map, List.length_range] at h1
      exact Nat.le_trans (Nat.le_add_right _ _) h1
    obtain ⟨xs, hxl, hx⟩ := list_of (p := fun i (x : α) => ok x ∧ ∀ j u, (cf x)[j]? = some u → w.cell? (a.add (i * size + j)) = some u) len (fun i hi1 => by
      obtain ⟨cs', hc, ht'⟩ := hi i (by omega)
      obtain ⟨_, hcl', hat⟩ := World.cells?_some hc
      rw [hC] at hcl' hat
      obtain ⟨x, rfl, hok⟩ := hel _ _ hcl' ⟨_, ht', fun k hk => hW k (by
        simp only [DataW.weights, ht, List.mem_cons, List.mem_append]
        exact .inr (.inl (wAll_mem (List.mem_map.2 ⟨i, List.mem_range.2 hi1, rfl⟩) k hk)))⟩
      refine ⟨x, hok, fun j u hu => ?_⟩
      have hj : j < size := by have := (List.getElem?_eq_some_iff.1 hu).1; omega
      rw [← Go.Deep.add_add]
      exact (hat j hj).trans hu)
    subst hxl
    refine ⟨some a, xs, cap, rfl, hlc, hm, fun hl0 => ?_, fun x hx1 => ?_, hlw⟩
    · have h00 : ∃ u, w.cell? (a.add 0) = some u := by
        have hx0 := hx 0 (xs[0]'hl0) (List.getElem?_eq_getElem hl0)
        have h1 : (cf (xs[0]'hl0))[0]? = some ((cf (xs[0]'hl0))[0]'(by rw [hcl]; exact h0)) := List.getElem?_eq_getElem _
        exact ⟨_, by simpa using hx0.2 0 _ h1⟩
      obtain ⟨u0, hu0⟩ := h00
      have hadd0 : a.add 0 = a := by unfold Addr.add; simp
      rw [hadd0] at hu0
      have hs : a.spot = none := by
        unfold World.cell? at hu0
        split at hu0
        · split at hu0
          · cases hu0
          · rename_i h1; simpa using h1
        · cases hu0
      obtain ⟨b, off, sp⟩ := a
      simp at hs
      subst hs
      refine ⟨b, off, rfl, World.block_lt_of_cell? w _ hu0, fun j u hu => ?_⟩
      have key : ∀ (l : List α) (j : Nat) (u : Value), (l.flatMap cf)[j]? = some u → ∃ i x k, l[i]? = some x ∧ (cf x)[k]? = some u ∧ j = i * size + k := by
        intro l
        induction l with
        | nil => intro j u h; simp at h
        | cons y ys ih =>
          intro j u h
          rw [List.flatMap_cons] at h
          rcases Nat.lt_or_ge j (cf y).length with h1 | h1
          · rw [List.getElem?_append_left h1] at h
            exact ⟨0, y, j, rfl, h, by simp⟩
          · rw [List.getElem?_append_right h1] at h
            obtain ⟨i, x, k, h2, h3, h4⟩ := ih _ _ h
            refine ⟨i + 1, x, k, by simpa using h2, h3, ?_⟩
            rw [hcl] at h1 h4
            rw [Nat.succ_mul]; omega
      obtain ⟨i, x, k, h2, h3, rfl⟩ := key xs j u hu
      have := (hx i x h2).2 k u h3
      rw [Addr.add_mid] at this
      exact this
    · obtain ⟨i, hi1⟩ := List.mem_iff_getElem?.1 hx1
      exact (hx i x hi1).1
/-- A struct that is handed in. -/
theorem open_structW {r : Reach} {b0 : Nat} {t : TypeId} {fs : Array Field} {v : Value} {d : DataW H} {p : List MemPlace} {k : Nat} (hs : P.underlying t = some (.struct fs)) (hC : P.cellsOf t = k) (hW : ∀ q ∈ d.weights P t, q ≤ R)
    (hv : Value.okWide P w r b0 t v) (h : DataW.Trod enc P w base spare held t v d p) : ∃ (l : List Value) (n : Nat), v = .agg l.toArray ∧ l.length = k ∧ TrodW enc P w base spare held R n t l := by
  obtain ⟨cs, rfl, hsz⟩ := okWide_struct hs hv
  obtain ⟨l⟩ := cs
  obtain ⟨fuel, hf⟩ := h
  have hcs : (Value.agg ⟨l⟩).cells.toList = l := by simp [Value.cells]
  rw [hcs] at hf
  exact ⟨l, fuel, rfl, by simpa using hsz.trans hC, ⟨_, hf, hW⟩⟩
end
end Go.Proofs.YtmmcamkmglpgiaaGreatDoor

namespace Go.Proofs.YtmmcamkmglpgiaaGreatDoor
set_option linter.all false
set_option maxRecDepth 100000
open Go.ChangeShapes Go.WideShapes Go.ChangeAt Go.RowKit Go.Deep
section
variable {H : Type} {enc : TypeId × Value → H} {w : World} {base : Nat} {spare : Nat → Bool} {held : Bool} {R : Nat}
def I64' (x : Int) : Prop := -9223372036854775808 ≤ x ∧ x ≤ 9223372036854775807
theorem wf_i64' {n : Int} (h : (Lit.int .i64 n).wf = true) : I64' n := by
  simp [Lit.wf, IntKind.min, IntKind.max, IntKind.bits, IntKind.signed] at h
  unfold I64'; omega
/-- An operation that is handed in. -/
structure OpIn (R : Nat) (x : OP9) : Prop where
  k : I64' x.k
  a : I64' x.a
  b : I64' x.b
  t : x.t.size ≤ maxLen ∧ x.t.size ≤ R
theorem op19_cells {n : Nat} {l : List Value} (hl : l.length = 4) (h : TrodW enc Tryz.prog w base spare held R n 52 l) : ∃ x : OP9, l = cOP x ∧ OpIn R x := by
  obtain ⟨n1, hf⟩ := h.fields Tryz.underlying52
  match l, hl with
  | [c0, c1, c2, c3], _ =>
  have g0 := hf.at_ 0 3 0 1 _ rfl rfl rfl (by kernel_rfl) rfl
  have g1 := hf.at_ 1 3 1 1 _ rfl rfl rfl (by kernel_rfl) rfl
  have g2 := hf.at_ 2 3 2 1 _ rfl rfl rfl (by kernel_rfl) rfl
  have g3 := hf.at_ 3 9 3 1 _ rfl rfl rfl (by kernel_rfl) rfl
  obtain ⟨k, rfl, u0⟩ := TrodW.int Tryz.underlying3 g0
  obtain ⟨a, rfl, u1⟩ := TrodW.int Tryz.underlying3 g1
  obtain ⟨b, rfl, u2⟩ := TrodW.int Tryz.underlying3 g2
  obtain ⟨t, rfl, t1, t2⟩ := TrodW.str Tryz.underlying9 g3
  exact ⟨⟨k, a, b, t⟩, rfl, wf_i64' u0, wf_i64' u1, wf_i64' u2, t1, t2⟩
theorem prog19_cells {n : Nat} {l : List Value} (hl : l.length = 2) (h : TrodW enc Tryz.prog w base spare held R n 53 l) : ∃ x : PG, l = cPG x ∧ (PgOk w x ∧ (x.n.size ≤ maxLen ∧ x.n.size ≤ R) ∧ (∀ o ∈ x.ops, OpIn R o) ∧ x.ops.length * 40 ≤ R) := by
  obtain ⟨n1, hf⟩ := h.fields Tryz.underlying53
  match l, hl with
  | [c0, c1], _ =>
  have g0 := hf.at_ 0 9 0 1 _ rfl rfl rfl (by kernel_rfl) rfl
  have g1 := hf.at_ 1 49 1 1 _ rfl rfl rfl (by kernel_rfl) rfl
  obtain ⟨a, rfl, a1, a2⟩ := TrodW.str Tryz.underlying9 g0
  obtain ⟨A, ops, cap, rfl, k1, k2, k3, k4, k5⟩ := g1.slice (cf := cOP) (ok := OpIn R) (size := 4) Tryz.underlying49 (by kernel_rfl) (by decide) cOP_len (fun n l hl h => op19_cells hl h)
  rw [elemRo_by] at k5
  exact ⟨⟨a, A, cap, ops⟩, rfl, ⟨k3, k1, k2⟩, ⟨a1, a2⟩, k4, k5⟩
/-- Programs that are handed in. -/
structure PgIn (w : World) (R : Nat) (A : Option Addr) (c : Nat) (l : List PG) : Prop where
  pgs : Pgs w A c l
  few : PgFew l
  names : ∀ x ∈ l, x.n.size ≤ maxLen ∧ x.n.size ≤ R
  ops : ∀ x ∈ l, ∀ o ∈ x.ops, OpIn R o
theorem open_progs (hR : R ≤ 140737488355000) {r : Reach} {b0 : Nat} {v : Value} {d : DataW H} {p : List MemPlace} (hW : ∀ q ∈ d.weights Tryz.prog 22, q ≤ R) (hv : Value.okWide Tryz.prog w r b0 22 v) (h : DataW.Trod enc Tryz.prog w base spare held 22 v d p) : ∃ (l : List PG) (A : Option Addr) (cap : Nat), v = .slice A l.length cap ∧ PgIn w R A cap l := by
  obtain ⟨a0, len, c0, rfl⟩ := okWide_slice Tryz.underlying22 hv
  obtain ⟨fuel, hf⟩ := h
  obtain ⟨A, l, cap, e, h1, h2, h3, h4, h5⟩ := TrodW.slice (R := R) (cf := cPG) (ok := fun x => PgOk w x ∧ (x.n.size ≤ maxLen ∧ x.n.size ≤ R) ∧ (∀ o ∈ x.ops, OpIn R o) ∧ x.ops.length * 40 ≤ R) (size := 2) Tryz.underlying22 (by kernel_rfl) (by decide) cPG_len (fun n l hl h => prog19_cells hl h) ⟨_, hf, hW⟩
  rw [elemLp_by] at h5
  exact ⟨l, A, cap, e, ⟨h3, h1, h2, fun x hx => (h4 x hx).1⟩, ⟨by omega, fun x hx => by have := (h4 x hx).2.2.2; omega⟩, fun x hx => (h4 x hx).2.1, fun x hx => (h4 x hx).2.2.1⟩
end
end Go.Proofs.YtmmcamkmglpgiaaGreatDoor

namespace Go.Proofs.YtmmcamkmglpgiaaGreatDoor
set_option linter.all false
set_option maxRecDepth 100000
open Go.Shelf Go.RowKit Go.Lib
theorem great_atP (p : List PG) (A : Option Addr) (c L : Nat) (hl : p.length = L) (w : World) (h : Pgs w A c p) : Calls Tryz.prog 7 #[.slice A L c] w fun e w' => ∃ b : Bool, e = .returned (.bool b) ∧ Only [] w w' ∧ True := by
  subst hl
  refine (great19_any p A c w h).mono ?_
  rintro e w2 ⟨b, rfl, O, _⟩
  exact ⟨b, rfl, O, trivial⟩
theorem from_atP (p : List PG) (A : Option Addr) (c L : Nat) (hl : p.length = L) (w : World) (h : Pgs w A c p) (hf : PgFew p) : Calls Tryz.prog 16 #[.slice A L c] w (NewX w (fun z : PX => .slice z.1 L z.2.1) (PgsP p)) := by
  subst hl
  exact from19_any p A c w h hf
theorem print_atP (p : List PG) (A : Option Addr) (c L : Nat) (hl : p.length = L) (w : World) (h : Pgs w A c p) (hS : SLib w) {l : List PM} (hm : p.map PG.m = l) : Calls Tryz.prog 13 #[.slice A L c] w (PrintR l w) := by
  subst hl; subst hm
  exact print_any19 p A c w h hS
theorem rprint_atP (p : List PG) (A : Option Addr) (c L : Nat) (hl : p.length = L) (w : World) (h : Pgs w A c p) {l : List PM} (hm : p.map PG.m = l) : Calls Tryz.prog 14 #[.slice A L c] w (PrintR l w) := by
  subst hl; subst hm
  exact rprint_any p A c w h
theorem same_atP (xs ys : List PG) (A B : Option Addr) (ca cb n1 n2 : Nat) (h1 : xs.length = n1) (h2 : ys.length = n2) (w : World) (ha : Pgs w A ca xs) (hb : Pgs w B cb ys) (hm : ys.map PG.m = xs.map PG.m) : Calls Tryz.prog 15 #[.slice A n1 ca, .slice B n2 cb] w fun e w' => e = .returned (.bool true) ∧ Only [] w w' := by
  subst h1; subst h2
  exact rsame19_any xs ys A B ca cb w ha hb hm
theorem few_ofP {p q : List PG} (h : PgFew q) (hm : p.map PG.m = q.map PG.m) : PgFew p := by
  have hl : p.length = q.length := by simpa using congrArg List.length hm
  refine ⟨by rw [hl]; exact h.len, fun x hx => ?_⟩
  have h1 : x.m ∈ q.map PG.m := hm ▸ List.mem_map_of_mem hx
  obtain ⟨y, hy, e⟩ := List.mem_map.1 h1
  have e2 : y.ops = x.ops := congrArg Prod.snd e
  rw [← e2]
  exact h.ops y hy
set_option maxHeartbeats 8000000 in
theorem prints_law (ps : List PG) (A : Option Addr) (c : Nat) (w : World) (h : Pgs w A c ps) (hf : PgFew ps) (hS : SLib w) : Calls Tryz.prog 4 #[.slice A ps.length c] w (RetB true w) := by
  refine Hs.enter Tryz.func4 [] [] [] [.c (.v (.slice A ps.length c))] (Mem.start0 w) (by kernel_rfl) (by kernel_rfl) ?_
  refine Hs.run0 300 (fun _ => by kernel_rfl) ?_
  refine Hs.callV (v := .bool true) (fun w' H => alive_any19 w' (hS.only H.only)) (by kernel_rfl) ?_
  refine Hs.run0 300 (fun _ => by kernel_rfl) ?_
  refine Hs.condF (by kernel_rfl) ?_
  refine Hs.run0 300 (fun _ => by kernel_rfl) ?_
  refine Hs.callM (Nx.start w) (fun w' H => ref19_any ps A c w' (h.only H.only) hf) (by kernel_rfl) (by kernel_rfl) fun z w1 L1 N1 => ?_
  obtain ⟨A1, c1, p1⟩ := z
  have m1 : p1.map PG.m = ps.map PG.m := (N1.keeps w1 (Only.refl _ _)).1.2
  have e1 : p1.length = ps.length := PgsP.len (N1.keeps w1 (Only.refl _ _)).1
  refine Hs.run0 300 (fun _ => by kernel_rfl) ?_
  refine Hs.callX (v := fun b => .bool b) (Q := fun _ => True) (fun w' H => great_atP p1 A1 c1 ps.length e1 w' (N1.now H).1.1) (by kernel_rfl) fun b _ => ?_
  refine Hs.run0 300 (fun _ => by kernel_rfl) ?_
  refine Hs.cond b (by kernel_rfl) (fun hb => ?_) (fun hb => ?_)
  · refine Hs.run0 300 (fun _ => by kernel_rfl) ?_
    exact Hs.ret (v := .bool true) Tryz.func4 (by kernel_rfl) fun w' H => ⟨rfl, N1.only H⟩
  refine Hs.run0 300 (fun _ => by kernel_rfl) ?_
  refine Hs.callM N1 (fun w' H => to19_any ps A c w' (h.only (N1.only H)) hf) (by kernel_rfl) (by kernel_rfl) fun z w2 L2 N2 => ?_
  obtain ⟨A2, c2, p2⟩ := z
  have m2 : p2.map PG.m = ps.map PG.m := (N2.keeps w2 (Only.refl _ _)).1.2
  have e2 : p2.length = ps.length := PgsP.len (N2.keeps w2 (Only.refl _ _)).1
  refine Hs.run0 300 (fun _ => by kernel_rfl) ?_
  obtain ⟨S, hSd⟩ : ∃ S, S = (if checkM (ps.map PG.m) = 0 then printL (ps.map PG.m) else []) := ⟨_, rfl⟩
  obtain ⟨E, hE⟩ : ∃ E, E = checkM (ps.map PG.m) := ⟨_, rfl⟩
  refine Hs.callV (v := .tuple #[.string (strL S), .int .i64 E]) (fun w' H => by have := print_atP p2 A2 c2 ps.length e2 w' (N2.now H).1.1 (hS.only (N2.only H)) m2; unfold PrintR at this; rw [← hSd, ← hE] at this; exact this) (by kernel_rfl) ?_
  refine Hs.run0 300 (fun _ => by kernel_rfl) ?_
  refine Hs.callV (v := .tuple #[.string (strL S), .int .i64 E]) (fun w' H => by have := rprint_atP p1 A1 c1 ps.length e1 w' (N2.now H).2.1.1 m1; unfold PrintR at this; rw [← hSd, ← hE] at this; exact this) (by kernel_rfl) ?_
  refine Hs.run0 300 (fun _ => by kernel_rfl) ?_
  refine Hs.bool 30 (decide (E = E)) (by kernel_rfl) (fun _ => ?_) (fun h => by simp at h)
  refine Hs.rung0 [3] 300 (fun _ => by kernel_rfl) ?_
  refine Hs.bool 35 ((strL S).toList == (strL S).toList) (by kernel_rfl) (fun _ => ?_) (fun h => by simp at h)
  refine Hs.rung0 [3, 8] 300 (fun _ => by kernel_rfl) ?_
  refine Hs.callM N2 (fun w' H => from_atP p2 A2 c2 ps.length e2 w' (N2.now H).1.1 (few_ofP hf m2)) (by kernel_rfl) (by kernel_rfl) fun z w4 L4 N4 => ?_
  obtain ⟨A4, c4, p4⟩ := z
  have m4 : p4.map PG.m = p2.map PG.m := (N4.keeps w4 (Only.refl _ _)).1.2
  have e4 : p4.length = ps.length := (PgsP.len (N4.keeps w4 (Only.refl _ _)).1).trans e2
  refine Hs.rung0 [3, 8] 300 (fun _ => by kernel_rfl) ?_
  refine Hs.callV (v := .bool true) (fun w' H => same_atP p4 p1 A4 A1 c4 c1 ps.length ps.length e4 e1 w' (N4.now H).1.1 (N4.now H).2.2.1.1 (by rw [m4, m2, m1])) (by kernel_rfl) ?_
  refine Hs.rung0 [3, 8] 300 (fun _ => by kernel_rfl) ?_
  exact Hs.ret (v := .bool true) Tryz.func4 (by kernel_rfl) fun w' H => ⟨rfl, N4.only H⟩
theorem slib_prints {W : World} (hL : laidMetH Tryz.prog Rows.programPrintsRow.laid W) {m : Int} (hm : W.cell? ⟨0, 0, none⟩ = some (.int .i64 m)) : SLib W := by
  rw [MakeChecks.laidMetH_plain _ _ _ (by kernel_rfl)] at hL
  exact slib_laid hL hm
theorem prints_lawI (ps : List PG) (A : Option Addr) (c : Nat) (R : Nat) (w : World) (h : PgIn w R A c ps) (hX : laidMetH Tryz.prog Rows.programPrintsRow.laid w.memory) (m : Int) (hm : w.cell? ⟨0, 0, none⟩ = some (.int .i64 m)) : Calls Tryz.prog 4 #[.slice A ps.length c] w (RetB true w) := by
  have hS0 : SLib w.memory := slib_prints hX (m := m) hm
  have hS : SLib w := ⟨hS0.syn, hS0.rng, hS0.tab, hS0.max⟩
  exact prints_law ps A c w h.pgs h.few hS
end Go.Proofs.YtmmcamkmglpgiaaGreatDoor

namespace Go.Proofs.YtmmcamkmglpgiaaGreatDoor
set_option linter.all false
open Go.ChangeShapes Go.WideShapes Go.ChangeAt Go.RowKit Go.Deep

/-- What the walk of a law is handed: the arguments read as data, how much each takes, the world's shape. -/
def LawWalkT (P : Program) (f : FuncId) (fn : Func) (X : World → Prop) : Prop :=
  ∀ (H : Type) (enc : TypeId × Value → H) (W : World) (base : Nat) (args : Array Value) (ds : List (DataW H)) (ps : List MemPlace),
    (∀ (j : Nat) t v, fn.params[j]? = some t → args[j]? = some v → Value.okWide P W .any base t v) →
    DataW.TrodAll enc P W 0 (fun _ => true) true fn.params.toList args.toList ds ps →
    (DataW.weightsEach P fn.params.toList ds).all (· ≤ reachBytes) = true →
    W.ShapedOpen P → X W.memory →
    Calls P f args W fun e W' => e = .returned (.bool true) ∧ Below W.heap.size W W'

theorem law_liftedT {C : Checked} {tb : TypeId} (own : ownKnob C.prog.godebug = none) (laidOut : laidOutB C.prog = true) (hb : C.prog.underlying tb = some .bool) (f : FuncId) (fn : Func) (s : ChangeSpec)
    (hfn : C.prog.funcs[f]? = some fn) (noInit : C.prog.inits.idxOf? f = none) (hres : fn.resultTypes = #[tb])
    (hread : readsAll C.prog fn.params.toList = true) (hv : s.vars = [])
    (hs : ∀ (H : Type) (ds : List (DataW H)), ds.length = fn.params.size → s.fn H ds = { results := [.lit (.bool true)], args := ds })
    (X : World → Prop)
    (walk : LawWalkT C.prog f fn X) (os : Os) (started : os.Started) (H : Type) (enc : TypeId × Value → H)
    (witness : ∃ (w : World) (tape : Tape) (i : Input), w.os = os ∧ (w.forCall tape i).Shaped C.prog ∧ i.vars = [] ∧ Input.okWide C.prog (w.forCall tape i) .any w.heap.size f i ∧
      ((s.pre enc C.prog fn [] false (w.forCall tape i).memory i.args ∧ X (w.forCall tape i).memory) ∧ sizedMet enc C.prog fn (OpenSpec.ofChange s) false (w.forCall tape i).memory i.args) ∧ Assume.holds {} C.prog (lone (Frame.enter C.prog f i.args .normal) [] (w.forCall tape i))) :
    ReturnsInHanded {} C os f .any (fun w args => (s.pre enc C.prog fn [] false w args ∧ X w) ∧ sizedMet enc C.prog fn (OpenSpec.ofChange s) false w args) (s.post enc C.prog fn false true false false) := by
  refine returnsInHanded_of_calls own started noInit witness ?_
  intro w tape i _ hsh _ hok hpre hholds
  obtain ⟨_, _, _, fn', hfn', _, _, _, _, hval⟩ := hok
  have e : fn' = fn := Option.some.inj (hfn'.symm.trans hfn)
  subst e
  obtain ⟨⟨⟨ds, gs, before, hw, hc⟩, hX⟩, hz⟩ := hpre
  have hW := DataW.Whole.of_heap (w' := w.forCall tape i) (by rfl) hw
  have hsz := hz.weights hw
  have hW' := hW
  obtain ⟨p, q, hA, hV, rfl, hfz, hnd⟩ := hW
  have hty : (OpenSpec.ofChange s).bare.plain.varTypes C.prog = [] := by simp [OpenSpec.ofChange, OpenSpec.bare, ChangeSpec.plain, hv, DataSpec.varTypes]
  have hV0 := hV
  rw [hv] at hV0
  obtain ⟨rfl, rfl⟩ := trodVars_none hV0
  rw [hty, List.append_nil, List.append_nil] at hsz
  have hlt := DataW.TrodAll.lt hA
  have hlen : ds.length = fn'.params.size := by have := trodAll_len _ _ _ _ hA; simpa using this
  have hfnc := hs H ds hlen
  refine (walk H enc (w.forCall tape i) w.heap.size i.args ds p hval hA hsz hsh hX).mono fun e W' ⟨he, bel⟩ => ?_
  subst he
  refine ChangeSpec.post_blind ⟨ds, [], p ++ [], [], p, [], hW', ?_, ?_, ?_, bel.frame _, fun h => by cases h⟩
  · rw [hres, List.append_nil, hfnc]
    exact trodAll_mk1 (shut_bool hb _)
  · rw [List.append_nil, hfnc]
    exact trodAll_stays laidOut bel _ _ _ _ hread hA hlt
  · rw [hv, List.append_nil, hfnc]
    rfl
end Go.Proofs.YtmmcamkmglpgiaaGreatDoor
