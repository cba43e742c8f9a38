/- Layer 19: Parse; for all texts; no condition · Layer 19: Parse; for all texts; no condition · Layer 19: the document's examples; no condition · Layer 19: the examples, walked; no condition but what the library's variables hold · Layer 19: an operation in front of a program, in plain words; no condition · Layer 19: programs handed to the program, as a row of the caller's own; for all programs; the lengths are small · Layer 19: how much work an operation in front makes, walked; for all programs whose lengths are small · Layer 19: the law of an operation in front, walked; for all programs whose lengths are small · Layer 19: the law of there and back, walked; for all programs whose lengths are small, and all texts · Layer 19: the law of there and back, at what is handed in; no condition · The frame of a law whose row lists tables, which its walk wants: if the call returns true and leaves all memory that was there as it was, then the law's row holds; the walk is told the reach and the world's shape; no condition. -/
import Derived.Test.YtmmcamkmglpgiaaGreatDoorPwD
import Derived.Test.YtmmcamkmglpgiaaGreatDoorPwC
import Derived.Test.YtmmcamkmglpgiaaGreatDoorEngZ
import Derived.Test.YtmmcamkmglpgiaaGreatDoorEngQ
import Derived.Test.YtmmcamkmglpgiaaGreatDoorPwA
import Derived.Test.YtmmcamkmglpgiaaGreatDoorPsA
import Derived.Test.YtmmcamkmglpgiaaGreatDoorOpn
import Derived.HandedShaped
import Derived.Shelf.Vars
import Derived.Lay
import Derived.LaidLaws
import Derived.SevenTiedAt
namespace Go.Proofs.YtmmcamkmglpgiaaGreatDoor
open Go.RowKit Go.Shelf
set_option linter.all false
set_option maxRecDepth 100000
/-- The programs that a text says, in memory, or what is wrong. -/
def ParseQ (o : Option (List PM) × Int) (w : World) (e : Ending) (w' : World) : Prop := match o with
  | (some l, i) => ∃ (ps : List PG) (A : Option Addr) (c : Nat) (fp : List Nat), e = .returned (.tuple #[.slice A ps.length c, .int .i64 i]) ∧ ps.map PG.m = l ∧ Pgs w' A c ps ∧ StX fp (fun w => Pgs w A c ps) ∧ ∀ x ∈ fp, w.heap.size ≤ x ∧ x < w'.heap.size
  | (none, i) => e = .returned (.tuple #[.slice none 0 0, .int .i64 i])
abbrev ParseR (s : List UInt8) (w : World) : Ending → World → Prop := fun e w' => ParseQ (parseM s) w e w' ∧ Only [] w w'
theorem parse_lines {s : List UInt8} (h1 : s.length ≤ 262144) (h2 : (!s.isEmpty && !endsN s) = false) : parseM s = (match foldP [] (linesB s) with
    | none => (none, 4)
    | some l => if checkM l = 0 then (some l, 0) else (none, checkM l)) := by
  unfold parseM
  rw [decide_eq_false (by omega : ¬ 262144 < s.length), h2]
  all_goals rfl
theorem progs_st {z : StP} {fp : List Nat} (hst : StX fp (fun w => ∀ x ∈ z.done, PgOk w x)) (A : Option Addr) (c : Nat) : StX ((A.map (·.block)).toList ++ ((z.cur.A.map (·.block)).toList ++ fp)) (fun w => Pgs w A c z.outs) := fun w w' hs he h => by
  refine ⟨fun h0 => ?_, h.le, h.max, ?_⟩
  · obtain ⟨b, off, e, hlt, hc⟩ := h.rd h0
    refine ⟨b, off, e, Nat.lt_of_lt_of_le hlt hs, fun j u hj => ?_⟩
    exact (World.cell?_of_block (w := w) (he b (by rw [e]; simp))).trans (hc j u hj)
  · have h4 := h.all
    intro y hy
    unfold StP.outs outsP at hy h4
    split at hy
    · rename_i e
      rw [e] at h4
      dsimp only at h4
      rcases List.mem_append.1 hy with h5 | h5
      · exact hst w w' hs (fun q hq => he q (by simp [hq])) (fun y hy => h4 y (List.mem_append.2 (.inl hy))) y h5
      · have h6 := h4 y hy
        rw [List.mem_singleton.1 h5] at h6 ⊢
        exact pgOk_st z.cur w w' hs (fun q hq => he q (List.mem_append.2 (.inr (List.mem_append.2 (.inl hq))))) h6
    · cases hy
section
variable {w : World} {k : KP} {s : List UInt8}
/-- A round has returned. -/
theorem badEndP (hp : parseM s = (match foldP [] (linesB s) with
    | none => (none, 4)
    | some l => if checkM l = 0 then (some l, 0) else (none, checkM l))) (K : k.ok w) {W' : World} (J : JX w k s W') (o : Obj) : Goes Tryz.prog 17 (ParseR s w) (.code .ret :: rfP.k) (fr (Tryz.f17).ntmps [k.b2, k.b3, k.b4, 0, 0, 0] (.dfr [⟨.collected k.r, #[]⟩] (slP k.Bs k.u))) (W'.putObj k.l o) := by
  obtain ⟨b2, b3, b4, Bs, l, r, u⟩ := k
  have e : fr (Tryz.f17).ntmps [b2, b3, b4, 0, 0, 0] (.dfr [⟨.collected r, #[]⟩] (slP Bs u)) = fr (Tryz.f17).ntmps [b2, b3, b4] (.dfr [⟨.collected r, #[]⟩] (slP Bs u)) := fr_app (Tryz.f17).ntmps [0, 0, 0] (β := [b2, b3, b4]) (by kernel_rfl)
  show Goes Tryz.prog 17 (ParseR s w) (.code .ret :: rfP.k) (fr (Tryz.f17).ntmps [b2, b3, b4, 0, 0, 0] (.dfr [⟨.collected r, #[]⟩] (slP Bs u))) (W'.putObj l o)
  rw [e]
  have hput : ∀ (y : Nat), y ≠ l → (W'.putObj l o).heap[y]? = W'.heap[y]? := fun y hy => World.putObj_heap_other hy
  have g2 : Blk (W'.putObj l o) b2 29 [.slice none 0 0] := (hput _ J.n2.2).trans J.h2
  have g3 : Blk (W'.putObj l o) b3 27 [.int .i64 4] := (hput _ J.n3.2).trans J.h3
  have H0 : Mem (W'.putObj l o) [b2, b3] [b2, b3, b4] [.b true 29 [.v (.slice none 0 0)], .b true 27 [.v (.int .i64 4)], .no] (W'.putObj l o) := Mem.startW [b2, b3] rfl (by simp [bks, HB.blk, J.ne]) ⟨g2, g3, trivial, trivial⟩ (fun y hy => by simpa [wrN, HB.wr, HB.blk] using hy)
  have key : Hs Tryz.prog ⟨17, none⟩ (ParseR s w) (Tryz.f17).ntmps (W'.putObj l o) [b2, b3] [b2, b3, b4] ⟨.no, .code .ret :: rfP.k, .dfr [⟨.collected r, #[]⟩] (slP Bs u), [.b true 29 [.v (.slice none 0 0)], .b true 27 [.v (.int .i64 4)], .no]⟩ := by
    refine Hs.retCB (r := r) (v := .tuple #[.slice none 0 0, .int .i64 4]) Tryz.func17 rfl rfl (by kernel_rfl) rfl (fun h => ?_) ((hput _ (Ne.symm K.lr)).trans J.hr) fun w1 w2 H e _ => ?_
    · simp only [List.mem_cons, List.not_mem_nil, or_false] at h
      rcases h with h | h
      · exact J.n2.1 h.symm
      · exact J.n3.1 h.symm
    · subst e
      refine ⟨?_, ?_⟩
      · rw [hp, J.fold]
        rfl
      · refine Only.trans (Only.trans (Only.trans J.only (only_put W' l o) (fun y hy => .inr ?_)) H.only (fun y hy => .inr ?_)) (only_put w1 r _) (fun y hy => .inr ?_)
        · simp only [List.mem_singleton] at hy; subst hy; exact K.l
        · simp only [List.mem_cons, List.not_mem_nil, or_false] at hy
          rcases hy with h | h
          · subst h; exact J.o2
          · subst h; exact J.o3
        · simp only [List.mem_singleton] at hy; subst hy; exact K.r
  exact key.go _ H0 (by kernel_rfl)
/-- All lines have come. -/
theorem goodEndP (hp : parseM s = (match foldP [] (linesB s) with
    | none => (none, 4)
    | some l => if checkM l = 0 then (some l, 0) else (none, checkM l))) (K : k.ok w) {z : StP} {fp bs : List Nat} {W' : World} (J : JP w k z fp (linesB s) bs W') (o : Obj) : Goes Tryz.prog 17 (ParseR s w) rfP.k (fr (Tryz.f17).ntmps [k.b2, k.b3, k.b4, 0, 0, 0] (.dfr [⟨.collected k.r, #[]⟩] (slP k.Bs k.u))) (W'.putObj k.l o) := by
  obtain ⟨b2, b3, b4, Bs, l, r, u⟩ := k
  obtain ⟨done, cur, has, A, c, n, j⟩ := z
  obtain ⟨hn, hj, hnm, hjm⟩ := J.ok
  dsimp only [StP.outs] at hn hj hnm hjm
  have e : fr (Tryz.f17).ntmps [b2, b3, b4, 0, 0, 0] (.dfr [⟨.collected r, #[]⟩] (slP Bs u)) = fr (Tryz.f17).ntmps (btP b2 b3 b4) (.dfr [⟨.collected r, #[]⟩] (slP Bs u)) := fr_app (Tryz.f17).ntmps [0] (β := btP b2 b3 b4) (by kernel_rfl)
  show Goes Tryz.prog 17 (ParseR s w) rfP.k (fr (Tryz.f17).ntmps [b2, b3, b4, 0, 0, 0] (.dfr [⟨.collected r, #[]⟩] (slP Bs u))) (W'.putObj l o)
  rw [e]
  have hlW : l < W'.heap.size := (Array.getElem?_eq_some_iff.1 J.hl).1
  have hlbs : l ∉ bs := fun h => (J.far l (by simp [h])).1 rfl
  have hrbs : r ∉ bs := fun h => (J.far r (by simp [h])).2.1 rfl
  have hput : ∀ (y : Nat), y ≠ l → (W'.putObj l o).heap[y]? = W'.heap[y]? := fun y hy => World.putObj_heap_other hy
  have hM : Mem W' bs (btP b2 b3 b4) (hpP (outsP done cur has) n A c cur j) W' := J.mem
  have hOp := only_put W' l o
  have H0 : Mem (W'.putObj l o) bs (btP b2 b3 b4) (hpP (outsP done cur has) n A c cur j) (W'.putObj l o) := by
    have h1 := Mem.rebaseF hM hOp fun i h y h1 h2 hm => by
      obtain rfl := List.mem_singleton.1 hm
      have hw : h.wr = true := by
        have := List.all_eq_true.1 (hpP_ro (outsP done cur has) n A c cur j) h (List.mem_of_getElem? h1)
        cases h with
        | no => cases h2
        | _ => exact this
      rcases hM.own i h y h1 hw h2 with h3 | h3
      · exact hlbs h3
      · omega
    rwa [show wrN (btP b2 b3 b4) (hpP (outsP done cur has) n A c cur j) = bs from J.hb.symm] at h1
  have hP : ∀ (hp : List HB) (w1 : World), Mem (W'.putObj l o) bs (btP b2 b3 b4) hp w1 → hp[3]? = some (.s A c n 33 2 ((outsP done cur has).flatMap cPG)) → hp[4]? = some (.s cur.A cur.c j 36 4 (cur.ops.flatMap cOP)) → Pgs w1 A c (outsP done cur has) := by
    intro hp w1 H e3 e4
    have hO := H.only
    have h3 := Mem.rdX (cf := cPG) H 3 hn e3
    have h4 := Mem.capS (cf := cPG) H 3 hn e3
    have h5 := Mem.rdX (cf := cOP) H 4 hj e4
    have h6 := Mem.capS (cf := cOP) H 4 hj e4
    refine ⟨h3, by rw [hn]; exact h4.1, h4.2, fun y hy => ?_⟩
    cases has with
    | false => cases hy
    | true =>
      rcases List.mem_append.1 hy with h7 | h7
      · refine J.st W' w1 (Nat.le_trans hOp.size hO.size) (fun q hq => ?_) J.dn y h7
        have hf := J.far q (by simp [hq])
        exact (hO.block q (Nat.lt_of_lt_of_le hf.2.2.2.2 hOp.size) (J.ap q hq)).trans (hput q hf.1)
      · rw [List.mem_singleton.1 h7]
        exact ⟨h5, by rw [hj]; exact h6.1, h6.2⟩
  have hrW : (W'.putObj l o).heap[r]? = some (.deferred (some [])) := (hput _ (Ne.symm K.lr)).trans J.hr
  have hOE : ∀ {β : List Nat} {hp : List HB} {w1 : World}, Mem (W'.putObj l o) bs β hp w1 → ∀ ob, Only [] w (w1.putObj r ob) := fun H ob => by
    refine Only.trans (Only.trans (Only.trans J.only hOp (fun y hy => .inr ?_)) H.only (fun y hy => .inr ?_)) (only_put _ r ob) (fun y hy => .inr ?_)
    · simp only [List.mem_singleton] at hy; subst hy; exact K.l
    · exact (J.far y (by simp [hy])).2.2.2.1
    · simp only [List.mem_singleton] at hy; subst hy; exact K.r
  have key : Hs Tryz.prog ⟨17, none⟩ (ParseR s w) (Tryz.f17).ntmps (W'.putObj l o) bs (btP b2 b3 b4) ⟨.no, rfP.k, .dfr [⟨.collected r, #[]⟩] (slP Bs u), hpP (outsP done cur has) n A c cur j⟩ := by
    have hC : ∀ w', Mem (W'.putObj l o) bs (btP b2 b3 b4) (hpP (outsP done cur has) n A c cur j) w' → Calls Tryz.prog 9 #[.slice A n c] w' fun e w2 => e = .returned (.int .i64 (checkM ((outsP done cur has).map PG.m))) ∧ Only [] w' w2 := fun w' H => by
      have := check_any (outsP done cur has) A c w' (hP _ w' H rfl rfl)
      rwa [hn] at this
    refine Hs.run0 300 (fun _ => by kernel_rfl) ?_
    refine Hs.callV (v := .int .i64 (checkM ((outsP done cur has).map PG.m))) (fun w' H => hC w' (Eq.mp (by kernel_rfl) H)) (by kernel_rfl) ?_
    refine Hs.run0 300 (fun _ => by kernel_rfl) ?_
    refine Hs.cond (!decide (checkM ((outsP done cur has).map PG.m) = 0)) (by kernel_rfl) (fun h1 => ?_) (fun h1 => ?_)
    · refine Hs.run0 300 (fun _ => by kernel_rfl) ?_
      refine Hs.retCB (r := r) (v := .tuple #[.slice none 0 0, .int .i64 (checkM ((outsP done cur has).map PG.m))]) Tryz.func17 (by kernel_rfl) (by kernel_rfl) (by kernel_rfl) (by kernel_rfl) hrbs hrW fun w1 w2 H e _ => ?_
      subst e
      refine ⟨?_, hOE H _⟩
      rw [hp, J.fold]
      have h1 : ¬ checkM ((outsP done cur has).map PG.m) = 0 := by simpa using h1
      show ParseQ (if checkM ((outsP done cur has).map PG.m) = 0 then _ else _) _ _ _
      rw [if_neg h1]
      rfl
    · refine Hs.run0 300 (fun _ => by kernel_rfl) ?_
      refine Hs.retCB (r := r) (v := .tuple #[.slice A n c, .int .i64 0]) Tryz.func17 (by kernel_rfl) (by kernel_rfl) (by kernel_rfl) (by kernel_rfl) hrbs hrW fun w1 w2 H e _ => ?_
      subst e
      refine ⟨?_, hOE H _⟩
      rw [hp, J.fold]
      have h1 : checkM ((outsP done cur has).map PG.m) = 0 := by simpa using h1
      show ParseQ (if checkM ((outsP done cur has).map PG.m) = 0 then _ else _) _ _ _
      rw [if_pos h1]
      have hst := progs_st (z := ⟨done, cur, has, A, c, n, j⟩) J.st A c
      have hq := hP _ w1 H (by kernel_rfl) (by kernel_rfl)
      have hsz : w1.heap.size ≤ (w1.putObj r (.deferred none)).heap.size := (only_put w1 r _).size
      have hW1 := Nat.le_trans hOp.size H.only.size
      have hmem : ∀ y ∈ (A.map (·.block)).toList ++ ((cur.A.map (·.block)).toList ++ fp), y ∈ bs ++ fp := fun y hy => by
        rcases List.mem_append.1 hy with h | h
        · refine List.mem_append.2 (.inl ?_)
          rw [J.hb]
          have h : A.map (·.block) = some y := Option.mem_toList.1 h
          exact wrN_mem.2 ⟨3, .s A c n 33 2 ((outsP done cur has).flatMap cPG), 0, rfl, rfl, rfl, h⟩
        rcases List.mem_append.1 h with h | h
        · refine List.mem_append.2 (.inl ?_)
          rw [J.hb]
          have h : cur.A.map (·.block) = some y := Option.mem_toList.1 h
          exact wrN_mem.2 ⟨4, .s cur.A cur.c j 36 4 (cur.ops.flatMap cOP), 0, rfl, rfl, rfl, h⟩
        · exact List.mem_append.2 (.inr h)
      refine ⟨outsP done cur has, A, c, _, by rw [hn], rfl, hst _ _ hsz (fun y hy => World.putObj_heap_other (J.far y (hmem y hy)).2.1) hq, hst, fun y hy => ?_⟩
      have hf := J.far y (hmem y hy)
      exact ⟨hf.2.2.2.1, by omega⟩
  exact key.go _ H0 (by kernel_rfl)
end
end Go.Proofs.YtmmcamkmglpgiaaGreatDoor

namespace Go.Proofs.YtmmcamkmglpgiaaGreatDoor
open Go.RowKit Go.Shelf
set_option linter.all false
set_option maxRecDepth 100000
def qP (Bs : Nat) (s : List UInt8) : HB := .q true (some ⟨Bs, 0, none⟩) (fun w => Blk w Bs 9 [.string (strL s)]) (fun w w' h1 _ h => (h1 _ rfl).trans h)
def z0P : StP := ⟨[], ⟨⟨#[]⟩, none, 0, []⟩, false, none, 0, 0, 0⟩
theorem jsP {w : World} {k : KP} (K : k.ok w) {pre : List (List UInt8)} {bs : List Nat} {A B : World} (J : JQ w k pre bs A) (hB : k.Bs ∉ bs) (O : Only [k.Bs] A B) : JQ w k pre bs B := by
  obtain ⟨z, fp, J⟩ := J
  have hlW : k.l < A.heap.size := (Array.getElem?_eq_some_iff.1 J.hl).1
  have hrW : k.r < A.heap.size := (Array.getElem?_eq_some_iff.1 J.hr).1
  have hM := J.mem
  have hm : Mem B bs k.bt z.hp B := by
    have h1 := Mem.rebaseF hM O fun i h y h1 h2 hm => by
      obtain rfl := List.mem_singleton.1 hm
      have hw : h.wr = true := by
        have := List.all_eq_true.1 (hpP_ro z.outs z.n z.A z.c z.cur z.j) h (List.mem_of_getElem? h1)
        cases h with
        | no => cases h2
        | _ => exact this
      rcases hM.own i h _ h1 hw h2 with h3 | h3
      · exact hB h3
      · have := J.BW; omega
    rwa [← J.hb] at h1
  refine ⟨z, fp, J.fold, J.ok, J.only.trans O (fun y hy => .inr (by simp at hy; subst hy; exact K.B)), J.hb, hm, J.st, J.st A B O.size (fun y hy => O.block y (J.far y (by simp [hy])).2.2.2.2 (by simp; exact (J.far y (by simp [hy])).2.2.1)) J.dn, ?_, ?_, fun y hy => ?_, J.ap, Nat.lt_of_lt_of_le J.BW O.size⟩
  · exact (O.block _ hlW (by simp; exact Ne.symm K.Bl)).trans J.hl
  · exact (O.block _ hrW (by simp; exact Ne.symm K.Br)).trans J.hr
  · have := J.far y hy
    exact ⟨this.1, this.2.1, this.2.2.1, this.2.2.2.1, Nat.lt_of_lt_of_le this.2.2.2.2 O.size⟩
theorem rangeP {s : List UInt8} {w : World} (hs : s.length ≤ 262144) (hS : SLib w) (hp : parseM s = (match foldP [] (linesB s) with
    | none => (none, 4)
    | some l => if checkM l = 0 then (some l, 0) else (none, checkM l))) (b2 b3 b4 Bs : Nat) (u : Nat → Value) : Hs Tryz.prog ⟨17, none⟩ (ParseR s w) (Tryz.f17).ntmps w [] [b2, b3, b4, 0, 0, 0] ⟨.no, rfP.todo, slP Bs u, z0P.hp ++ [qP Bs s]⟩ := by
  have hfr : ∀ ds, fr (Tryz.f17).ntmps [b2, b3, b4, 0, 0, 0] (.dfr ds (slP Bs u)) = fr (Tryz.f17).ntmps (btP b2 b3 b4) (.dfr ds (slP Bs u)) := fun ds => fr_app (Tryz.f17).ntmps [0] (β := btP b2 b3 b4) (by kernel_rfl)
  have hfr0 : fr (Tryz.f17).ntmps [b2, b3, b4, 0, 0, 0] (slP Bs u) = fr (Tryz.f17).ntmps (btP b2 b3 b4) (slP Bs u) := fr_app (Tryz.f17).ntmps [0] (β := btP b2 b3 b4) (by kernel_rfl)
  refine Hs.rangeF (g := rfP.g) (ps := rfP.ps) (assign := rfP.asg) (body := rfP.body) (k := rfP.k) (G := 52) (lb := #[.pointer (some ⟨Bs, 0, none⟩)]) (fn := Tryz.f52) ⟨rfl, rfl⟩ rfl (by kernel_rfl) Tryz.func52 (by kernel_rfl) fun w1 H => ?_
  have hB1 : Blk w1 Bs 9 [.string (strL s)] := Mem.atQ (A := some ⟨Bs, 0, none⟩) (Q := fun w => Blk w Bs 9 [.string (strL s)]) (st := fun w w' h1 _ h => (h1 _ rfl).trans h) H 5 rfl
  have hBn : w.heap.size ≤ Bs := by
    rcases H.own 5 (qP Bs s) Bs rfl rfl rfl with h | h
    · cases h
    · exact h
  have hBlt := hB1.lt
  have hO1 := H.only
  have hsz1 := hO1.size
  have K : KP.ok ⟨b2, b3, b4, Bs, w1.heap.size + 1, w1.heap.size, u⟩ w := ⟨by show w1.heap.size + 1 ≠ w1.heap.size; omega, by show Bs ≠ w1.heap.size + 1; omega, by show Bs ≠ w1.heap.size; omega, by show w.heap.size ≤ w1.heap.size + 1; omega, hsz1, hBn⟩
  let W0 : World := (w1.alloc (.deferred (some []))).alloc (.loop (KP.rc ⟨b2, b3, b4, Bs, w1.heap.size + 1, w1.heap.size, u⟩ .ready none))
  have hOW : Only [] w1 W0 := ((Only.refl [] w1).alloc _).alloc _
  have hszW : W0.heap.size = w1.heap.size + 2 := by simp [W0]
  have H5 : Mem w [] (btP b2 b3 b4) z0P.hp w1 := H.sub [0, 1, 2, 3, 4] (by decide) (by kernel_rfl)
  have H6 : Mem W0 (wrN (btP b2 b3 b4) z0P.hp) (btP b2 b3 b4) z0P.hp W0 := Mem.rebaseF H5 hOW (by simp)
  have hwr : ∀ y ∈ wrN (btP b2 b3 b4) z0P.hp, w.heap.size ≤ y ∧ y < w1.heap.size ∧ y ≠ Bs := fun y hy => by
    have h1 := H5.wrN_lt y hy
    obtain ⟨i, h, b, e1, e2, e3, e4⟩ := wrN_mem.1 hy
    refine ⟨?_, h1, fun e => ?_⟩
    · rcases H5.own i h y e1 e3 (by rw [nm_get e2]; exact e4) with h | h
      · cases h
      · exact h
    · have hi5 : i < 5 := (List.getElem?_eq_some_iff.1 e1).1
      have hn : nm [b2, b3, b4, 0, 0, 0] i = nm (btP b2 b3 b4) i := by
        have h3 : i = 0 ∨ i = 1 ∨ i = 2 ∨ i = 3 ∨ i = 4 := by omega
        rcases h3 with rfl | rfl | rfl | rfl | rfl <;> rfl
      have e5 : (z0P.hp ++ [qP Bs s])[i]? = some h := by rw [List.getElem?_append_left hi5]; exact e1
      have := H.inj i 5 h (qP Bs s) y e5 rfl (by rw [hn, nm_get e2]; exact e4) (by rw [e]; rfl)
      omega
  have J0 : JQ w ⟨b2, b3, b4, Bs, w1.heap.size + 1, w1.heap.size, u⟩ [] (wrN (btP b2 b3 b4) z0P.hp) W0 := by
    refine ⟨z0P, [], rfl, ⟨rfl, rfl, Nat.le_refl _, Nat.le_refl _⟩, hO1.trans hOW (by simp), rfl, H6, (fun _ _ _ _ _ => by intro y hy; cases hy), (by intro y hy; cases hy), ?_, ?_, fun y hy => ?_, by simp, by rw [hszW]; show Bs < _; omega⟩
    · exact (congrArg _ (by simp : w1.heap.size + 1 = (w1.alloc (.deferred (some []))).heap.size)).trans (heap_alloc_new (w1.alloc (.deferred (some []))) _)
    · refine (Below.heap_alloc _ _ _ (by simp)).trans (heap_alloc_new w1 _)
    · rw [List.append_nil] at hy
      have := hwr y hy
      rw [hszW]
      exact ⟨by show y ≠ w1.heap.size + 1; omega, by show y ≠ w1.heap.size; omega, this.2.2, this.1, by omega⟩
  have hBW : Blk W0 Bs 9 [.string (strL s)] := hB1.only hOW (by simp)
  refine ⟨fun W => ∃ bs, JQ w ⟨b2, b3, b4, Bs, w1.heap.size + 1, w1.heap.size, u⟩ (linesB s) bs W, JX w ⟨b2, b3, b4, Bs, w1.heap.size + 1, w1.heap.size, u⟩ s, ?_, ?_, ?_⟩
  · rw [show fr (Tryz.f17).ntmps [b2, b3, b4, 0, 0, 0] (SM.sl ⟨.no, rfP.todo, slP Bs u, z0P.hp ++ [qP Bs s]⟩) = fr (Tryz.f17).ntmps (btP b2 b3 b4) (slP Bs u) from hfr0]
    refine (lines_stops 1 (Nat.le_refl 1) (w1.heap.size + 1) Bs s (by omega) W0 (JQ w ⟨b2, b3, b4, Bs, w1.heap.size + 1, w1.heap.size, u⟩) (JX w ⟨b2, b3, b4, Bs, w1.heap.size + 1, w1.heap.size, u⟩ s) (wrN (btP b2 b3 b4) z0P.hp) (by rw [hBW.cell]; rfl) (hBW.frozen 0) (by omega) (fun h => (hwr Bs h).2.2 rfl) (fun pre bs A B J hb O => jsP K J hb O) (fun pre x bs W1 ht J => ?_) J0).mono ?_
    · obtain ⟨t, ht⟩ := ht
      obtain ⟨z, fp, J⟩ := J
      exact roundP hs hS K J ht
    · rintro e W' ⟨hv, ⟨bs, h, _⟩ | h⟩
      · exact ⟨hv, .inl ⟨bs, h⟩⟩
      · exact ⟨hv, .inr h⟩
  · rintro W' ⟨bs, z, fp, J⟩
    refine ⟨?_, ?_⟩
    · rw [show fr (Tryz.f17).ntmps [b2, b3, b4, 0, 0, 0] (SM.sl ⟨.no, rfP.todo, slP Bs u, z0P.hp ++ [qP Bs s]⟩) = fr (Tryz.f17).ntmps (btP b2 b3 b4) (slP Bs u) from hfr0]
      exact J.hl
    · exact goodEndP hp K J _
  · intro W' J
    refine ⟨?_, ?_⟩
    · rw [show fr (Tryz.f17).ntmps [b2, b3, b4, 0, 0, 0] (SM.sl ⟨.no, rfP.todo, slP Bs u, z0P.hp ++ [qP Bs s]⟩) = fr (Tryz.f17).ntmps (btP b2 b3 b4) (slP Bs u) from hfr0]
      exact J.hl
    · exact badEndP hp K J _
theorem textE_l (s : List UInt8) : textE (strL s) = !s.isEmpty := by
  unfold textE
  rw [str_cmp0]
theorem parse_any19 (s : List UInt8) (w : World) (hS : SLib w) : Calls Tryz.prog 17 #[.string (strL s)] w (ParseR s w) := by
  refine Hs.enter Tryz.func17 [] [] [] [.c (.v (.string (strL s)))] (Mem.start0 w) (by kernel_rfl) (by kernel_rfl) ?_
  refine Hs.run2 300 (fun _ => by kernel_rfl) fun b2 b3 => ?_
  refine Hs.condP ((262144 : Int) < ((strL s).size : Int)) (by kernel_rfl) (fun h1 => ?_) (fun h1 => ?_)
  · have h1 : (262144 : Int) < (s.length : Int) := h1
    have e : parseM s = (none, 6) := by
      unfold parseM
      rw [decide_eq_true (by omega : 262144 < s.length)]
    refine Hs.run0 300 (fun _ => by kernel_rfl) ?_
    exact Hs.ret (v := .tuple #[.slice none 0 0, .int .i64 6]) Tryz.func17 (by kernel_rfl) fun w' H => ⟨by rw [e]; rfl, H.only⟩
  · have h1 : ¬ (262144 : Int) < (s.length : Int) := h1
    have hs : s.length ≤ 262144 := by omega
    have fin : ∀ hb : (!s.isEmpty && !endsN s) = false, ∀ (b4 : Nat) (Bs : Nat) (u : Nat → Value), Hs Tryz.prog ⟨17, none⟩ (ParseR s w) (Tryz.f17).ntmps w [] [b2, b3, b4, 0, 0, 0] ⟨.no, rfP.todo, slP Bs u, z0P.hp ++ [qP Bs s]⟩ := fun hb b4 Bs u => rangeP hs hS (parse_lines hs hb) b2 b3 b4 Bs u
    refine Hs.run0 300 (fun _ => by kernel_rfl) ?_
    refine Hs.bool 17 (textE (strL s)) (by kernel_rfl) (fun h2 => ?_) (fun h2 => ?_)
    · refine Hs.rung0 [2] 300 (fun _ => by kernel_rfl) ?_
      refine Hs.callV (v := .bool (endsN s)) (fun w' H => suffix_any s (by omega) w') (by kernel_rfl) ?_
      refine Hs.rung0 [2] 300 (fun _ => by kernel_rfl) ?_
      refine Hs.cond (!endsN s) (by kernel_rfl) (fun h3 => ?_) (fun h3 => ?_)
      · have e : parseM s = (none, 4) := by
          rw [textE_l] at h2
          unfold parseM
          rw [decide_eq_false (by omega : ¬ 262144 < s.length), h2, h3]
          rfl
        refine Hs.run0 300 (fun _ => by kernel_rfl) ?_
        exact Hs.ret (v := .tuple #[.slice none 0 0, .int .i64 4]) Tryz.func17 (by kernel_rfl) fun w' H => ⟨by rw [e]; rfl, H.only⟩
      · have fin := fin (by rw [h3, Bool.and_false])
        refine Hs.run1 300 (fun _ => by kernel_rfl) fun b4 => ?_
        refine Hs.nilS 33 2 (by kernel_rfl) ?_ (by kernel_rfl)
        refine Hs.nilS 36 4 (by kernel_rfl) ?_ (by kernel_rfl)
        refine Hs.callQ (X := Nat) (fun b => some ⟨b, 0, none⟩) (fun b => .func (.func 52) #[] #[.pointer (some ⟨b, 0, none⟩)]) (fun b w => Blk w b 9 [.string (strL s)]) (fun b w w' h1 _ h => (h1 _ rfl).trans h) (fun w' H => lines_any s w') (by kernel_rfl) (by kernel_rfl) fun Bs => ?_
        refine Hs.run0 300 (fun _ => by kernel_rfl) ?_
        exact Hs.goto rfP.todo [0, 1, 2, 3, 4, 5] (z0P.hp ++ [qP Bs s]) [(2, .c (.p 0 0)), (3, .c (.p 1 0)), (4, .c (.p 2 0)), (23, .c (.v (.func (.func 52) #[] #[.pointer (some ⟨Bs, 0, none⟩)])))] (by kernel_rfl) (by decide) (by kernel_rfl) (by kernel_rfl) (fun _ => (by kernel_rfl)) (fun u => fin b4 Bs u)
    · have fin := fin (by rw [textE_l] at h2; rw [h2]; rfl)
      refine Hs.rung0 [2] 300 (fun _ => by kernel_rfl) ?_
      refine Hs.condF (by kernel_rfl) ?_
      refine Hs.run1 300 (fun _ => by kernel_rfl) fun b4 => ?_
      refine Hs.nilS 33 2 (by kernel_rfl) ?_ (by kernel_rfl)
      refine Hs.nilS 36 4 (by kernel_rfl) ?_ (by kernel_rfl)
      refine Hs.callQ (X := Nat) (fun b => some ⟨b, 0, none⟩) (fun b => .func (.func 52) #[] #[.pointer (some ⟨b, 0, none⟩)]) (fun b w => Blk w b 9 [.string (strL s)]) (fun b w w' h1 _ h => (h1 _ rfl).trans h) (fun w' H => lines_any s w') (by kernel_rfl) (by kernel_rfl) fun Bs => ?_
      refine Hs.run0 300 (fun _ => by kernel_rfl) ?_
      exact Hs.goto rfP.todo [0, 1, 2, 3, 4, 5] (z0P.hp ++ [qP Bs s]) [(2, .c (.p 0 0)), (3, .c (.p 1 0)), (4, .c (.p 2 0)), (23, .c (.v (.func (.func 52) #[] #[.pointer (some ⟨Bs, 0, none⟩)])))] (by kernel_rfl) (by decide) (by kernel_rfl) (by kernel_rfl) (fun _ => (by kernel_rfl)) (fun u => fin b4 Bs u)
end Go.Proofs.YtmmcamkmglpgiaaGreatDoor

namespace Go.Proofs.YtmmcamkmglpgiaaGreatDoor
open Go.RowKit Go.MapKept
set_option linter.all false
set_option maxRecDepth 100000
def t19a : List UInt8 := [112, 114, 111, 103, 32, 97, 10, 111, 117, 116, 32, 104, 105, 92, 48, 97, 10, 101, 120, 105, 116, 32, 51, 10]
def t19b : List UInt8 := [112, 114, 111, 103, 32, 97, 10, 102, 111, 114, 107, 32, 48, 10]
def l19a : List PM := [(strL [97], [⟨2, 0, 0, strL [104, 105, 10]⟩, ⟨1, 3, 0, strL []⟩])]
def l19b : List PM := [(strL [97], [⟨5, 0, 0, strL []⟩])]
theorem fold_a : foldP [] (linesB t19a) = some l19a := by kernel_rfl
theorem fold_b : foldP [] (linesB t19b) = some l19b := by kernel_rfl
theorem check_a : checkM l19a = 0 := by kernel_rfl
theorem check_b : checkM l19b = 2 := by kernel_rfl
theorem work_a : workM l19a 0 = 2 := by kernel_rfl
theorem parse_a : parseM t19a = (some l19a, 0) := by
  rw [parse_lines (by decide) (by kernel_rfl), fold_a]
  show (if checkM l19a = 0 then (some l19a, (0 : Int)) else (none, checkM l19a)) = _
  rw [if_pos check_a]
theorem parse_b : parseM t19b = (none, 2) := by
  rw [parse_lines (by decide) (by kernel_rfl), fold_b]
  show (if checkM l19b = 0 then (some l19b, (0 : Int)) else (none, checkM l19b)) = _
  rw [check_b]
  rfl
end Go.Proofs.YtmmcamkmglpgiaaGreatDoor

namespace Go.Proofs.YtmmcamkmglpgiaaGreatDoor
open Go.RowKit Go.MapKept
set_option linter.all false
set_option maxRecDepth 100000
abbrev PsQ (l : List PM) (z : PX) (w : World) : Prop := Pgs w z.1 z.2.1 z.2.2 ∧ z.2.2.map PG.m = l
theorem parse_new (s : List UInt8) (w : World) (hS : SLib w) {l : List PM} {i : Int} (h : parseM s = (some l, i)) : Calls Tryz.prog 17 #[.string (strL s)] w (NewX w (fun z : PX => .tuple #[.slice z.1 l.length z.2.1, .int .i64 i]) (PsQ l)) := by
  refine (parse_any19 s w hS).mono ?_
  rintro e w' ⟨hq, O⟩
  rw [h] at hq
  obtain ⟨ps, A, c, fp, rfl, hm, hP, hst, hfp⟩ := hq
  refine ⟨(A, c, ps), by rw [← hm, List.length_map], O, fun L hL w2 O2 => ⟨?_, hm⟩⟩
  exact hst w' w2 O2.size (fun y hy => O2.block y (hfp y hy).2 fun hm => by have := hL y hm; have := (hfp y hy).1; omega) hP
theorem parse_bad (s : List UInt8) (w : World) (hS : SLib w) {i : Int} (h : parseM s = (none, i)) : Calls Tryz.prog 17 #[.string (strL s)] w fun e w' => e = .returned (.tuple #[.slice none 0 0, .int .i64 i]) ∧ Only [] w w' := by
  refine (parse_any19 s w hS).mono ?_
  rintro e w' ⟨hq, O⟩
  rw [h] at hq
  exact ⟨hq, O⟩
theorem alive_any19 (w : World) (hS : SLib w) : Calls Tryz.prog 6 #[] w (RetB true w) := by
  refine Hs.enter Tryz.func6 [] [] [] [] (Mem.start0 w) (by kernel_rfl) (by kernel_rfl) ?_
  refine Hs.run0 300 (fun _ => by kernel_rfl) ?_
  refine Hs.callM (Nx.start w) (fun w' H => parse_new t19a w' (hS.only H.only) parse_a) (by kernel_rfl) (by kernel_rfl) fun z w1 L1 N => ?_
  obtain ⟨A, c, ps⟩ := z
  obtain ⟨hP, hm⟩ := (N.keeps w1 (Only.refl _ _)).1
  dsimp only at hP hm
  obtain ⟨⟨xn, xA, xc, xo⟩, hps⟩ : ∃ x, ps = [x] := by
    have h := congrArg List.length hm
    rw [List.length_map] at h
    exact List.length_eq_one_iff.1 h
  subst hps
  have hm2 : [(xn, xo)] = l19a := hm
  unfold l19a at hm2
  injection hm2 with hm2 _
  injection hm2 with e1 e2
  subst e1
  subst e2
  obtain ⟨ab, aoff, hA, _, _⟩ := hP.rd (by show 0 < 1; decide)
  obtain ⟨ob, ooff, hO, _, _⟩ := (hP.all _ (List.mem_singleton.2 rfl)).1 (by show 0 < 2; decide)
  dsimp only at hO
  subst hA
  subst hO
  have hN : ∀ {β : List Nat} {hp : List HB} {w' : World}, Mem w1 L1 β hp w' → Pgs w' (some ⟨ab, aoff, none⟩) c [⟨strL [97], some ⟨ob, ooff, none⟩, xc, [⟨2, 0, 0, strL [104, 105, 10]⟩, ⟨1, 3, 0, strL []⟩]⟩] := fun H => (N.now H).1.1
  refine Hs.run0 300 (fun _ => by kernel_rfl) ?_
  refine Hs.callV (v := .tuple #[.slice none 0 0, .int .i64 2]) (fun w' H => parse_bad t19b w' (hS.only (N.only H)) parse_b) (by kernel_rfl) ?_
  refine Hs.run0 300 (fun _ => by kernel_rfl) ?_
  refine Hs.rung0 [2, 7] 300 (fun _ => by kernel_rfl) ?_
  refine Hs.idx (b := ab) (off := aoff) (len := 1) (c := c) (i := 0) elemPr (by decide) (by kernel_rfl) ?_
  refine Hs.rung0 [2, 7] 300 (fun _ => by kernel_rfl) ?_
  refine Hs.ldc (E' := 31) (b := ab) (off := aoff + 0 * 2 + 1) (.slice (some ⟨ob, ooff, none⟩) 2 xc) (by kernel_rfl) (fun w' H => rdX_cell cPG_len (hN H).rd (i := 0) rfl (j := 1) rfl) (by kernel_rfl) ?_
  refine Hs.rung0 [2, 7, 15] 300 (fun _ => by kernel_rfl) ?_
  refine Hs.idx (b := ab) (off := aoff) (len := 1) (c := c) (i := 0) elemPr (by decide) (by kernel_rfl) ?_
  refine Hs.rung0 [2, 7, 15] 300 (fun _ => by kernel_rfl) ?_
  refine Hs.ldc (E' := 31) (b := ab) (off := aoff + 0 * 2 + 1) (.slice (some ⟨ob, ooff, none⟩) 2 xc) (by kernel_rfl) (fun w' H => rdX_cell cPG_len (hN H).rd (i := 0) rfl (j := 1) rfl) (by kernel_rfl) ?_
  refine Hs.rung0 [2, 7, 15] 300 (fun _ => by kernel_rfl) ?_
  refine Hs.idx (b := ob) (off := ooff) (len := 2) (c := xc) (i := 0) elemPo (by decide) (by kernel_rfl) ?_
  refine Hs.rung0 [2, 7, 15] 300 (fun _ => by kernel_rfl) ?_
  refine Hs.ldc (E' := 9) (b := ob) (off := ooff + 0 * 4 + 3) (.string (strL [104, 105, 10])) (by kernel_rfl) (fun w' H => rdX_cell cOP_len ((hN H).all _ (List.mem_singleton.2 rfl)).1 (i := 0) rfl (j := 3) rfl) (by kernel_rfl) ?_
  refine Hs.rung0 [2, 7, 15, 25, 29] 300 (fun _ => by kernel_rfl) ?_
  have hC : ∀ {β : List Nat} {hp : List HB} {w' : World}, Mem w1 L1 β hp w' → Calls Tryz.prog 11 #[.slice (some ⟨ab, aoff, none⟩) 1 c, .int .i64 0] w' fun e w2 => e = .returned (.int .i64 2) ∧ Only [] w' w2 := fun {β hp w'} H => by
    have := work_any19 [⟨strL [97], some ⟨ob, ooff, none⟩, xc, [⟨2, 0, 0, strL [104, 105, 10]⟩, ⟨1, 3, 0, strL []⟩]⟩] (some ⟨ab, aoff, none⟩) c 0 w' (hN H)
    rw [show workM (List.map PG.m [⟨strL [97], some ⟨ob, ooff, none⟩, xc, [⟨2, 0, 0, strL [104, 105, 10]⟩, ⟨1, 3, 0, strL []⟩]⟩]) 0 = 2 from work_a] at this
    exact this
  refine Hs.callV (v := .int .i64 2) (fun w' H => hC H) (by kernel_rfl) ?_
  refine Hs.rung0 [2, 7, 15, 25, 29] 300 (fun _ => by kernel_rfl) ?_
  exact Hs.ret (v := .bool true) Tryz.func6 (by kernel_rfl) fun w' H => ⟨rfl, N.only H⟩
end Go.Proofs.YtmmcamkmglpgiaaGreatDoor

namespace Go.Proofs.YtmmcamkmglpgiaaGreatDoor
open Go.RowKit Go.MapKept
set_option linter.all false
set_option maxRecDepth 100000
theorem stepW_shift {g : Int → Int} {o : OP9} {n d : Int} (h0 : 0 ≤ n) (hd : 0 ≤ d) (hg : 0 ≤ g o.a) : stepW g o (min (n + d) 1073741824) = min (stepW g o n + d) 1073741824 := by
  unfold stepW
  split <;> split <;> split <;> omega
theorem opsW_shift {g : Int → Int} (hg : ∀ a, 0 ≤ g a) {d : Int} (hd : 0 ≤ d) : ∀ (ops : List OP9) (n : Int), 0 ≤ n → n ≤ 1073741824 → opsW g ops (min (n + d) 1073741824) = min (opsW g ops n + d) 1073741824
  | [], n, _, _ => rfl
  | o :: l, n, h0, h1 => by
    have hb := stepW_bd (g := g) (o := o) h0 (hg o.a)
    rw [opsW_cons, opsW_cons, stepW_shift h0 hd (hg o.a)]
    split
    · rfl
    · exact opsW_shift hg hd l _ hb.1 hb.2
theorem all_wrongs {q : Int} : ∀ {l : List PM} {i : Nat}, (∀ (k : Nat) (m : PM), l[k]? = some m → wrongM m ((i + k : Nat) : Int) q = 0) → wrongs q l i = 0
  | [], i, _ => rfl
  | a :: l, i, h => by
    have h0 : wrongM a i q = 0 := h 0 a rfl
    rw [wrongs_cons, if_pos h0]
    exact all_wrongs fun k m hk => by
      have := h (k + 1) m (by simpa using hk)
      rwa [show i + (k + 1) = i + 1 + k by omega] at this
theorem wrongM_of {m : PM} {p q : Int} (h1 : nmB m.1 = true) (h2 : m.2.length ≤ 64) (h3 : ∀ o ∈ m.2, rightB o p q = true) : wrongM m p q = 0 := by
  unfold wrongM
  rw [h1]
  dsimp only
  rw [if_neg (by omega), show badOps m.2 p q = false from List.any_eq_false.2 fun o ho => by rw [h3 o ho]; decide]
/-- An operation in front of a program's. -/
def frontM (l : List PM) (i : Nat) (o : OP9) : List PM := l.modify i fun m => (m.1, o :: m.2)
theorem frontM_get (l : List PM) (i : Nat) (o : OP9) (k : Nat) : (frontM l i o)[k]? = (l[k]?).map fun m => if i = k then (m.1, o :: m.2) else m := by
  unfold frontM
  rw [List.getElem?_modify]
  cases l[k]? with
  | none => rfl
  | some m => by_cases h : i = k <;> simp [h]
theorem frontM_fst (l : List PM) (i : Nat) (o : OP9) : (frontM l i o).map Prod.fst = l.map Prod.fst := by
  apply List.ext_getElem?
  intro k
  rw [List.getElem?_map, List.getElem?_map, frontM_get]
  cases l[k]? with
  | none => rfl
  | some m => simp; split <;> rfl
theorem frontM_len (l : List PM) (i : Nat) (o : OP9) : (frontM l i o).length = l.length := List.length_modify ..
theorem frontM_check {l : List PM} (h : checkM l = 0) {i : Nat} {m : PM} (hi : l[i]? = some m) (hm : m.2.length < 64) {o : OP9} (ho : rightB o i l.length = true) : checkM (frontM l i o) = 0 := by
  have hl := check_len h
  have hw := check_wrongs h
  have h1 : wrongs l.length (frontM l i o) 0 = 0 := all_wrongs fun k m' hk => by
    rw [frontM_get] at hk
    cases hk2 : l[k]? with
    | none => rw [hk2] at hk; cases hk
    | some m2 =>
      rw [hk2] at hk
      simp only [Option.map_some, Option.some.injEq] at hk
      have hp := check_prog h hk2
      rw [Nat.zero_add]
      split at hk
      · rename_i e
        subst e
        rw [hi] at hk2
        injection hk2 with hk2
        subst hk2
        subst hk
        refine wrongM_of hp.1 (by simp; omega) fun q hq => ?_
        rcases List.mem_cons.1 hq with e | e
        · rw [e]; exact ho
        · exact hp.2.2 q e
      · subst hk
        exact wrongM_of hp.1 hp.2.1 hp.2.2
  unfold checkM
  rw [frontM_len, frontM_fst]
  rw [show withinB (l.length : Int) 1 32 = true by simp [withinB]; omega]
  dsimp only
  rw [if_pos h1]
  exact hw.2
theorem frontM_later {l : List PM} (i : Nat) (o : OP9) (hf : Fwd l) (hf2 : Fwd (frontM l i o)) : ∀ (d k : Nat), l.length - k ≤ d → i < k → k < l.length → workW (frontM l i o) k = workW l k := by
  intro d
  induction d with
  | zero => intro k h1 h2 h3; omega
  | succ d ih =>
    intro k h1 h2 h3
    obtain ⟨m, hm⟩ : ∃ m, l[k]? = some m := ⟨_, List.getElem?_eq_getElem h3⟩
    have e1 := (workW_ok hf).eq k m hm
    have e2 := (workW_ok hf2).eq k m (by rw [frontM_get, hm]; simp; intro e; omega)
    rw [e1, e2]
    refine opsW_congr _ _ fun q hq h5 => ?_
    have := hf k m q hm hq h5
    exact ih q.a.toNat (by omega) (by omega) (by omega)
/-- What an operation in front makes of it. -/
theorem front_work {l : List PM} (h : checkM l = 0) {i : Nat} {m : PM} (hi : l[i]? = some m) (hm : m.2.length < 64) {o : OP9} (ho : rightB o i l.length = true) : workM (frontM l i o) i = opsW (fun a => workW l a.toNat) (o :: m.2) 0 := by
  have hil := (List.getElem?_eq_some_iff.1 hi).1
  have hc := frontM_check h hi hm ho
  have hf := check_fwd h
  have hf2 := check_fwd hc
  unfold workM
  rw [if_pos ⟨hc, by omega, by rw [frontM_len]; omega⟩, Int.toNat_natCast]
  have hg : (frontM l i o)[i]? = some (m.1, o :: m.2) := by rw [frontM_get, hi]; simp
  rw [(workW_ok hf2).eq i _ hg]
  refine opsW_congr _ _ fun q hq h5 => ?_
  have := hf2 i _ q hg hq h5
  rw [frontM_len] at this
  exact frontM_later i o hf hf2 l.length q.a.toNat (by omega) (by omega) (by omega)
theorem work_self {l : List PM} (h : checkM l = 0) {i : Nat} {m : PM} (hi : l[i]? = some m) : workM l i = opsW (fun a => workW l a.toNat) m.2 0 := by
  have hil := (List.getElem?_eq_some_iff.1 hi).1
  unfold workM
  rw [if_pos ⟨h, by omega, by omega⟩, Int.toNat_natCast]
  exact (workW_ok (check_fwd h)).eq i m hi
theorem work_bd (l : List PM) (i : Int) : 0 ≤ workM l i ∧ workM l i ≤ 1073741824 := by
  unfold workM
  split
  · exact workF_bd l _ _
  · exact ⟨Int.le_refl _, (by decide : (0 : Int) ≤ 1073741824)⟩
theorem stepW_plain {g : Int → Int} {o : OP9} (h : ¬ (o.k = 5 ∨ o.k = 6)) (n : Int) : stepW g o n = min (n + 1) 1073741824 := by
  unfold stepW
  rw [if_neg h]
  split <;> omega
theorem stepW_call {g : Int → Int} {o : OP9} (h : o.k = 5 ∨ o.k = 6) (n : Int) : stepW g o n = min (n + 1 + g o.a) 1073741824 := by
  unfold stepW
  rw [if_pos h]
  split <;> omega
section
variable {l : List PM} {i : Nat} {m : PM}
theorem work_g (a : Int) : 0 ≤ (fun a : Int => workW l a.toNat) a := (workF_bd l (l.length - a.toNat) a.toNat).1
theorem copy_law (h : checkM l = 0) (hi : l[i]? = some m) (hm : m.2.length < 64) : workM (frontM l i ⟨16, 0, 0, ⟨#[]⟩⟩) i = min (workM l i + 1) 1073741824 := by
  rw [front_work h hi hm (by kernel_rfl), work_self h hi, opsW_cons, if_neg (by simp), stepW_plain (by simp)]
  exact opsW_shift work_g (by decide) m.2 0 (Int.le_refl _) (by decide)
theorem exit_law (h : checkM l = 0) (hi : l[i]? = some m) (hm : m.2.length < 64) : workM (frontM l i ⟨1, 7, 0, ⟨#[]⟩⟩) i = 1 := by
  rw [front_work h hi hm (by kernel_rfl), opsW_cons, if_pos (by simp), stepW_plain (by simp)]
  rfl
theorem work_at (h : checkM l = 0) {k : Nat} (hk : k < l.length) : workM l k = workW l k := by
  unfold workM
  rw [if_pos ⟨h, by omega, by omega⟩, Int.toNat_natCast]
theorem later_of {k : Nat} (h1 : i < k) (h2 : k < l.length) : laterB i l.length k = true := by
  unfold laterB
  rw [decide_eq_true (by omega : (k : Int) > (i : Int)), decide_eq_true (by omega : (k : Int) < (l.length : Int))]
  rfl
theorem fork_law (h : checkM l = 0) (hi : l[i]? = some m) (hm : m.2.length < 64) {k : Nat} (h1 : i < k) (h2 : k < l.length) : workM (frontM l i ⟨5, k, 0, ⟨#[]⟩⟩) i = min (workM l i + 1 + workM l k) 1073741824 := by
  have hr : rightB ⟨5, k, 0, ⟨#[]⟩⟩ i l.length = true := (by kernel_rfl : rightB ⟨5, k, 0, ⟨#[]⟩⟩ i l.length = laterB i l.length k).trans (later_of h1 h2)
  have hb := work_bd l k
  rw [front_work h hi hm hr, work_self h hi, opsW_cons, if_neg (by simp), stepW_call (by simp)]
  have e : (fun a : Int => workW l a.toNat) (k : Int) = workM l k := by rw [work_at h h2]; show workW l (k : Int).toNat = _; rw [Int.toNat_natCast]
  show opsW (fun a : Int => workW l a.toNat) m.2 (min (0 + 1 + (fun a : Int => workW l a.toNat) (k : Int)) 1073741824) = _
  rw [e, Int.add_assoc 0]
  rw [opsW_shift work_g (by omega) m.2 0 (Int.le_refl _) (by decide)]
  congr 1
  omega
theorem exec_law (h : checkM l = 0) (hi : l[i]? = some m) (hm : m.2.length < 64) {k : Nat} (h1 : i < k) (h2 : k < l.length) : workM (frontM l i ⟨6, k, 0, ⟨#[]⟩⟩) i = min (1 + workM l k) 1073741824 := by
  have hr : rightB ⟨6, k, 0, ⟨#[]⟩⟩ i l.length = true := (by kernel_rfl : rightB ⟨6, k, 0, ⟨#[]⟩⟩ i l.length = laterB i l.length k).trans (later_of h1 h2)
  rw [front_work h hi hm hr, opsW_cons, if_pos (by simp), stepW_call (by simp)]
  have e : (fun a : Int => workW l a.toNat) (k : Int) = workM l k := by rw [work_at h h2]; show workW l (k : Int).toNat = _; rw [Int.toNat_natCast]
  show min (0 + 1 + (fun a : Int => workW l a.toNat) (k : Int)) 1073741824 = _
  rw [e]
  rfl
end
end Go.Proofs.YtmmcamkmglpgiaaGreatDoor

namespace Go.Proofs.YtmmcamkmglpgiaaGreatDoor
set_option linter.all false
set_option maxRecDepth 100000
open Go.RowKit
/-- New programs, the row the caller's own. -/
abbrev ToPost (ps : List PG) (w : World) : Ending → World → Prop := fun e w' => ∃ (A' : Option Addr) (c' : Nat) (outs : List PG), e = .returned (.slice A' ps.length c') ∧ Only [] w w' ∧ outs.length = ps.length ∧ OwnX cPG 33 2 w' w.heap.size (.slice A' ps.length c') outs ∧ ∀ L : List Nat, (∀ y ∈ L, y < w.heap.size ∨ some y = A'.map (·.block)) → Keeps w' L (fun w => outs.map PG.m = ps.map PG.m ∧ ∀ z ∈ outs, PgOk w z)
set_option maxHeartbeats 4000000 in
theorem to19_own (ps : List PG) (A : Option Addr) (c : Nat) (w : World) (h : Pgs w A c ps) (hf : PgFew ps) : Calls Tryz.prog 10 #[.slice A ps.length c] w (ToPost ps w) := by
  have hlen : ps.length ≤ maxLen := Nat.le_trans h.le h.max
  have hps := hf.len
  have J : ∀ (d i : Nat), ps.length - i = d → i ≤ ps.length → ∀ (outs : List PG) (A4 : Option Addr) (c4 : Nat) (w1 : World) (L1 : List Nat), Nx w w1 L1 (fun w => ∀ z ∈ outs, PgOk w z) → outs.map PG.m = (ps.take i).map PG.m → outs.length = i → ∀ (u : Nat → Value), Hs Tryz.prog 10 (ToPost ps w) (Tryz.f10).ntmps w1 L1 [0] ⟨.no, loopAt Tryz.f10 0, pins [(3, .c (.v (.slice A4 i c4))), (9, .c (.v (.slice A ps.length c))), (10, .c (.v (.int .i64 ps.length))), (11, .c (.v (.int .i64 i)))] (.vals u), [.s A4 c4 i 33 2 (outs.flatMap cPG)]⟩ := by
    intro d
    induction d with
    | zero =>
      intro i hd hi outs A4 c4 w1 L1 N ho hol u
      obtain rfl : i = ps.length := by omega
      rw [List.take_length] at ho
      refine Hs.run0 300 (fun _ => by kernel_rfl) ?_
      refine Hs.condP ((ps.length : Int) < (ps.length : Int)) (by kernel_rfl) (fun h => by omega) (fun _ => ?_)
      refine Hs.run0 300 (fun _ => by kernel_rfl) ?_
      exact Hs.ret (v := .slice A4 ps.length c4) Tryz.func10 (by kernel_rfl) fun w' H => ⟨A4, c4, outs, rfl, N.only H, hol, N.ownX (cf := cPG) H 0 hol (by kernel_rfl), fun L hL => (N.fin H L (fun y hy => (hL y hy).imp id fun e => wrN_mem.2 ⟨0, .s A4 c4 ps.length 33 2 (outs.flatMap cPG), 0, (by kernel_rfl), rfl, rfl, e.symm⟩)).imp fun w h => ⟨ho, h⟩⟩
    | succ d ih =>
      intro i hd hi outs A4 c4 w1 L1 N ho hol u
      have hil : i < ps.length := by omega
      obtain ⟨x, hx⟩ : ∃ x, ps[i]? = some x := ⟨_, List.getElem?_eq_getElem hil⟩
      have hxm : x ∈ ps := List.mem_of_getElem? hx
      have hxo := h.all x hxm
      have hxl := hf.ops x hxm
      obtain ⟨ab, aoff, hA, _, _⟩ := h.rd (by omega)
      have hih := fun outs A4 c4 w1 L1 N e1 e2 u => ih (i + 1) (by omega) (by omega) outs A4 c4 w1 L1 N e1 e2 u
      clear ih
      have hrd := h.rd
      rw [hA] at hih hrd ⊢
      have K : ∀ (e j : Nat), x.ops.length - j = e → j ≤ x.ops.length → ∀ (g0 g : Nat) (A5 : Option Addr) (c5 : Nat) (u : Nat → Value), Hs Tryz.prog 10 (ToPost ps w) (Tryz.f10).ntmps w1 L1 [0, g, 0] ⟨.no, loopAt Tryz.f10 1, pins [(3, .c (.v (.slice A4 i c4))), (6, .c (.p 1 0)), (9, .c (.v (.slice (some ⟨ab, aoff, none⟩) ps.length c))), (10, .c (.v (.int .i64 ps.length))), (11, .c (.v (.int .i64 i))), (19, .c (.v (.slice x.A x.ops.length x.c))), (20, .c (.v (.int .i64 x.ops.length))), (21, .c (.v (.int .i64 j)))] (.vals u), [.s A4 c4 i 33 2 (outs.flatMap cPG), .b true 33 [.v (.string x.n), .v (.slice A5 j c5)], .s A5 c5 j 36 4 ((x.ops.take j).flatMap cOP)]⟩ := by
        intro e
        induction e with
        | zero =>
          intro j he hj g0 g A5 c5 u
          obtain rfl : j = x.ops.length := by omega
          rw [List.take_length]
          refine Hs.run0 300 (fun _ => by kernel_rfl) ?_
          refine Hs.condP ((x.ops.length : Int) < (x.ops.length : Int)) (by kernel_rfl) (fun h => by omega) (fun _ => ?_)
          refine Hs.run1 300 (fun _ => by kernel_rfl) fun b3 => ?_
          refine Hs.app (cf := cPG) (c := 1) (ty := 29) 0 elemPr outs [(⟨x.n, A5, c5, x.ops⟩ : PG)] i 1 hol rfl cPG_one cPG_len (A := A4) (B := some ⟨b3, 0, none⟩) (cap := c4) (by kernel_rfl) (by kernel_rfl) (by kernel_rfl) (fun w' H => H.rdB (cf := cPG) (wr := true) (T := 33) (cs := PG.sc ⟨x.n, A5, c5, x.ops⟩) (gs := [(⟨x.n, A5, c5, x.ops⟩ : PG)]) 3 (by kernel_rfl) rfl) (by unfold maxLen; omega) (by rw [elemPr_by]; omega) fun A6 c6 h6 => ?_
          refine Hs.run0 300 (fun _ => by kernel_rfl) ?_
          refine Hs.freezeN 2 (cf := cOP) (size := 4) (A := A5) (cap := c5) (nl := x.ops.length) (E := 36) N rfl (by kernel_rfl) (by kernel_rfl) fun w3 L3 N3 => ?_
          refine Hs.slot 11 (.c (.v (.int .i64 (i + 1 : Nat)))) rfl ((by kernel_rfl : _ = Value.int .i64 (IntKind.i64.wrap ((i : Int) + 1))).trans (wrap_nextJ hlen)) ?_
          refine Hs.loop (by kernel_rfl) ?_
          exact Hs.goto (loopAt Tryz.f10 0) [0] [.s A6 c6 (i + 1) 33 2 ((outs ++ [(⟨x.n, A5, c5, x.ops⟩ : PG)]).flatMap cPG)] [(3, .c (.v (.slice A6 (i + 1) c6))), (9, .c (.v (.slice (some ⟨ab, aoff, none⟩) ps.length c))), (10, .c (.v (.int .i64 ps.length))), (11, .c (.v (.int .i64 (i + 1 : Nat))))] (by kernel_rfl) (by decide) (by kernel_rfl) (by kernel_rfl) (fun _ => (by kernel_rfl)) (fun u => hih (outs ++ [(⟨x.n, A5, c5, x.ops⟩ : PG)]) A6 c6 w3 L3 (N3.imp fun w h => fun y hy => by
            rcases List.mem_append.1 hy with h1 | h1
            · exact h.2 y h1
            · rw [List.mem_singleton.1 h1]; exact h.1) (by rw [List.map_append, ho, List.take_add_one, hx, List.map_append]; rfl) (by rw [List.length_append, hol]; rfl) u)
        | succ e ihk =>
          intro j he hj g0 g A5 c5 u
          have hjl : j < x.ops.length := by omega
          obtain ⟨y, hy⟩ : ∃ y, x.ops[j]? = some y := ⟨_, List.getElem?_eq_getElem hjl⟩
          have htj : (x.ops.take j).length = j := by rw [List.length_take]; omega
          obtain ⟨ob, ooff, hO, _, _⟩ := hxo.1 (by omega)
          have hihk := fun g0 g A5 c5 u => ihk (j + 1) (by omega) (by omega) g0 g A5 c5 u
          clear ihk
          have hor := hxo.1
          rw [hO] at hihk hor ⊢
          refine Hs.run0 300 (fun _ => by kernel_rfl) ?_
          refine Hs.condP ((j : Int) < (x.ops.length : Int)) (by kernel_rfl) (fun _ => ?_) (fun h => by omega)
          refine Hs.run0 300 (fun _ => by kernel_rfl) ?_
          refine Hs.idx (b := ob) (off := ooff) (len := x.ops.length) (c := x.c) (i := j) elemRo hjl (by kernel_rfl) ?_
          refine Hs.ldx (cf := cOP) (size := 4) (E := 52) (b := ob) (off := ooff) (i := j) (l := x.ops) (x := y) cOP_len (.g y.sc) (by kernel_rfl) (fun w' H => hor.only (N.only H)) hy (by kernel_rfl) (by kernel_rfl) rfl (by kernel_rfl) ?_
          refine Hs.run2 300 (fun _ => by kernel_rfl) fun b4 b5 => ?_
          refine Hs.app (cf := cOP) (c := 1) (ty := 31) 2 elemPo (x.ops.take j) [y] j 1 htj rfl cOP_one cOP_len (A := A5) (B := some ⟨b5, 0, none⟩) (cap := c5) (by kernel_rfl) (by kernel_rfl) (by kernel_rfl) (fun w' H => H.rdB (cf := cOP) (wr := true) (T := 36) (cs := y.sc) (gs := [y]) 4 (by kernel_rfl) rfl) (by unfold maxLen; omega) (by rw [elemPo_by]; omega) fun A6 c6 h6 => ?_
          refine Hs.run0 300 (fun _ => by kernel_rfl) ?_
          refine Hs.slot 21 (.c (.v (.int .i64 (j + 1 : Nat)))) rfl ((by kernel_rfl : _ = Value.int .i64 (IntKind.i64.wrap ((j : Int) + 1))).trans (wrap_nextJ (Nat.le_trans hxo.2.1 hxo.2.2))) ?_
          refine Hs.loop (by kernel_rfl) ?_
          have e1 : x.ops.take j ++ [y] = x.ops.take (j + 1) := by rw [List.take_add_one, hy]; rfl
          rw [e1]
          exact Hs.goto (loopAt Tryz.f10 1) [0, 1, 2] [.s A4 c4 i 33 2 (outs.flatMap cPG), .b true 33 [.v (.string x.n), .v (.slice A6 (j + 1) c6)], .s A6 c6 (j + 1) 36 4 ((x.ops.take (j + 1)).flatMap cOP)] [(3, .c (.v (.slice A4 i c4))), (6, .c (.p 1 0)), (9, .c (.v (.slice (some ⟨ab, aoff, none⟩) ps.length c))), (10, .c (.v (.int .i64 ps.length))), (11, .c (.v (.int .i64 i))), (19, .c (.v (.slice (some ⟨ob, ooff, none⟩) x.ops.length x.c))), (20, .c (.v (.int .i64 x.ops.length))), (21, .c (.v (.int .i64 (j + 1 : Nat))))] (by kernel_rfl) (by decide) (by kernel_rfl) (by kernel_rfl) (fun _ => (by kernel_rfl)) (fun u => hihk g0 g A6 c6 u)
      refine Hs.run0 300 (fun _ => by kernel_rfl) ?_
      refine Hs.condP ((i : Int) < (ps.length : Int)) (by kernel_rfl) (fun _ => ?_) (fun h => by omega)
      refine Hs.run0 300 (fun _ => by kernel_rfl) ?_
      refine Hs.idx (b := ab) (off := aoff) (len := ps.length) (c := c) (i := i) elemLp hil (by kernel_rfl) ?_
      refine Hs.ldx (cf := cPG) (size := 2) (E := 53) (b := ab) (off := aoff) (i := i) (l := ps) (x := x) cPG_len (.g x.sc) (by kernel_rfl) (fun w' H => hrd.only (N.only H)) hx (by kernel_rfl) (by kernel_rfl) rfl (by kernel_rfl) ?_
      refine Hs.run2 300 (fun _ => by kernel_rfl) fun b1 b2 => ?_
      refine Hs.nilS 36 4 (by kernel_rfl) ?_ (by kernel_rfl)
      refine Hs.loop (by kernel_rfl) ?_
      exact Hs.goto (loopAt Tryz.f10 1) [0, 2, 3] [.s A4 c4 i 33 2 (outs.flatMap cPG), .b true 33 [.v (.string x.n), .v (.slice none 0 0)], .s none 0 0 36 4 ((x.ops.take 0).flatMap cOP)] [(3, .c (.v (.slice A4 i c4))), (6, .c (.p 1 0)), (9, .c (.v (.slice (some ⟨ab, aoff, none⟩) ps.length c))), (10, .c (.v (.int .i64 ps.length))), (11, .c (.v (.int .i64 i))), (19, .c (.v (.slice x.A x.ops.length x.c))), (20, .c (.v (.int .i64 x.ops.length))), (21, .c (.v (.int .i64 (0 : Nat))))] (by kernel_rfl) (by decide) (by kernel_rfl) (by kernel_rfl) (fun _ => (by kernel_rfl)) (fun u => K x.ops.length 0 (by omega) (by omega) 0 b2 none 0 u)
  refine Hs.enter Tryz.func10 [] [] [] [.c (.v (.slice A ps.length c))] (Mem.start0 w) (by kernel_rfl) (by kernel_rfl) ?_
  refine Hs.run0 300 (fun _ => by kernel_rfl) ?_
  refine Hs.nilS 33 2 (by kernel_rfl) ?_ (by kernel_rfl)
  refine Hs.loop (by kernel_rfl) ?_
  exact Hs.goto (loopAt Tryz.f10 0) [0] [.s none 0 0 33 2 (([] : List PG).flatMap cPG)] [(3, .c (.v (.slice none 0 0))), (9, .c (.v (.slice A ps.length c))), (10, .c (.v (.int .i64 ps.length))), (11, .c (.v (.int .i64 (0 : Nat))))] (by kernel_rfl) (by decide) (by kernel_rfl) (by kernel_rfl) (fun _ => (by kernel_rfl)) (fun u => J ps.length 0 (by omega) (by omega) [] none 0 w [] ((Nx.start w).imp fun w h => fun y hy => by cases hy) rfl rfl u)
end Go.Proofs.YtmmcamkmglpgiaaGreatDoor

namespace Go.Proofs.YtmmcamkmglpgiaaGreatDoor
set_option linter.all false
set_option maxRecDepth 100000
open Go.RowKit
theorem splice_setP (l : List PG) (i : Nat) (x : PG) (hx : l[i]? = some x) (A : Option Addr) (c n : Nat) (q : List OP9) (hn : q.length = n) : splice (l.flatMap cPG) (0 + i * 2 + 1) [.slice A n c] = (l.set i ⟨x.n, A, c, q⟩).flatMap cPG := by
  subst hn
  have hil := (List.getElem?_eq_some_iff.1 hx).1
  have e : ∀ l : List PG, (l.flatMap cPG).length = l.length * 2 := fun l => by
    induction l with
    | nil => rfl
    | cons a l ih => rw [List.flatMap_cons, List.length_append, ih, cPG_len, List.length_cons]; omega
  have e0 : l = l.take i ++ x :: l.drop (i + 1) := by
    have h1 := List.take_append_drop i l
    rw [List.drop_eq_getElem_cons hil] at h1
    rw [List.getElem?_eq_getElem hil] at hx
    injection hx with hx
    rw [hx] at h1
    exact h1.symm
  have e1 : l.set i ⟨x.n, A, c, q⟩ = l.take i ++ ⟨x.n, A, c, q⟩ :: l.drop (i + 1) := by
    rw [List.set_eq_take_append_cons_drop, if_pos hil]
  rw [e1]
  conv => lhs; rw [e0]
  have hti : ((l.take i).flatMap cPG).length = i * 2 := by rw [e, List.length_take]; omega
  rw [List.flatMap_append, List.flatMap_append, List.flatMap_cons, List.flatMap_cons]
  unfold splice
  rw [List.take_append, List.drop_append, hti]
  have e3 : 0 + i * 2 + 1 - i * 2 = 1 := by omega
  have e4 : ((l.take i).flatMap cPG).take (0 + i * 2 + 1) = (l.take i).flatMap cPG := List.take_of_length_le (by omega)
  have e5 : ((l.take i).flatMap cPG).drop (0 + i * 2 + 1 + [(.slice A q.length c : Value)].length) = [] := List.drop_of_length_le (by rw [List.length_cons, List.length_nil, hti]; omega)
  have e6 : 0 + i * 2 + 1 + [(.slice A q.length c : Value)].length - i * 2 = 2 := by rw [List.length_cons, List.length_nil]; omega
  rw [e3, e4, e5, e6]
  simp [cPG]
theorem frontM_set (l : List PG) (i : Nat) (x : PG) (hx : l[i]? = some x) (A : Option Addr) (c : Nat) (o : OP9) : (l.set i ⟨x.n, A, c, o :: x.ops⟩).map PG.m = frontM (l.map PG.m) i o := by
  apply List.ext_getElem?
  intro k
  rw [frontM_get, List.getElem?_map, List.getElem?_map, List.getElem?_set]
  have hil := (List.getElem?_eq_some_iff.1 hx).1
  by_cases h : i = k
  · subst h
    rw [if_pos rfl, if_pos hil, hx]
    simp [PG.m]
  · simp [h]
    cases l[k]? <;> rfl
set_option maxHeartbeats 4000000 in
theorem front_any (ps : List PG) (A : Option Addr) (c : Nat) (i : Nat) (o : OP9) (bl bi : Nat) (hbl : bl ≠ bi) (w : World) (h : Pgs w A c ps) (hf : PgFew ps) (hi : i < ps.length) (h1 : Blk w bl 22 [.slice A ps.length c]) (h2 : Blk w bi 3 [.int .i64 i]) : Calls Tryz.prog 12 #[.agg (cOP o).toArray, .pointer (some ⟨bl, 0, none⟩), .pointer (some ⟨bi, 0, none⟩)] w fun e w' => e = .returned (.int .i64 (workM (frontM (ps.map PG.m) i o) i)) ∧ Only [] w w' := by
  have H0 : Mem w [] [bl, bi] [.b false 22 [.v (.slice A ps.length c)], .b false 3 [.v (.int .i64 i)]] w := Mem.startW [] rfl (by simp [bks, HB.blk, hbl]) ⟨h1, h2, trivial⟩ (fun y hy => by simp [wrN, HB.wr] at hy)
  refine Hs.enter Tryz.func12 [] [bl, bi] _ [.g o.sc, .c (.p 0 0), .c (.p 1 0)] H0 (by kernel_rfl) (by kernel_rfl) ?_
  refine Hs.run1 300 (fun _ => by kernel_rfl) fun b3 => ?_
  refine Hs.callSM (cf := cPG) (E := 33) (size := 2) (fun A c => .slice A ps.length c) (fun outs : List PG => outs) ps.length (fun outs w => outs.map PG.m = ps.map PG.m ∧ ∀ z ∈ outs, PgOk w z) (Nx.start w) (fun w' H => to19_own ps A c w' (h.only H.only) hf) (by kernel_rfl) (by kernel_rfl) fun A2 c2 outs w1 L1 hol N => ?_
  obtain ⟨x, hx⟩ : ∃ x, outs[i]? = some x := ⟨_, List.getElem?_eq_getElem (by omega)⟩
  have hxm : x ∈ outs := List.mem_of_getElem? hx
  have hD := (N.keeps w1 (Only.refl _ _)).1
  have hxl : x.ops.length ≤ 3518437208875 := by
    have h3 := congrArg (fun l => l[i]?) hD.1
    simp only [List.getElem?_map, hx, List.getElem?_eq_getElem hi, Option.map_some, Option.some.injEq] at h3
    have h4 : x.ops = ps[i].ops := congrArg Prod.snd h3
    rw [h4]
    exact hf.ops _ (List.getElem_mem hi)
  refine Hs.run0 300 (fun _ => by kernel_rfl) ?_
  refine Hs.someS (E := 33) (size := 2) (A := A2) (cap := c2) (nl := ps.length) (vs := outs.flatMap cPG) 3 (by kernel_rfl) (by omega) fun g hg => ?_
  subst hg
  refine Hs.any [1, 2, 3, 1012] (by kernel_rfl) ?_
  refine Hs.run0 300 (fun _ => by kernel_rfl) ?_
  refine Hs.takeIdx (rd := [1, 2, 3]) 6 elemPr (b := g) (off := 0) (c := c2) (len := ps.length) (i := i) hi (by kernel_rfl) ?_
  refine Hs.run0 300 (fun _ => by kernel_rfl) ?_
  refine Hs.takeLdC (rd := [1, 2, 3]) 8 3 cPG_len (E := 33) (E' := 31) (g := g) (i := i) (q := 1) (cap := c2) (nl := ps.length) (l := outs) (x := x) (.slice x.A x.ops.length x.c) (by kernel_rfl) (by kernel_rfl) (by kernel_rfl) hol hx rfl (by kernel_rfl) ?_
  refine Hs.run1 300 (fun _ => by kernel_rfl) fun b5 => ?_
  refine Hs.litN (cf := cOP) (ty := 31) (c := x.c) (cs := o.sc) 4 elemPo [o] x.ops 1 x.ops.length rfl rfl cOP_one cOP_len (B := x.A) (by kernel_rfl) (by kernel_rfl) rfl (by kernel_rfl) (fun w' H => ((N.now H).1.2 x hxm).1) (by unfold maxLen; omega) (by rw [elemPo_by]; omega) fun A5 c5 g1 g2 => ?_
  refine Hs.run0 300 (fun _ => by kernel_rfl) ?_
  refine Hs.idx (b := g) (off := 0) (len := ps.length) (c := c2) (i := i) elemPr hi (by kernel_rfl) ?_
  refine Hs.run0 300 (fun _ => by kernel_rfl) ?_
  refine Hs.stc 3 (E := 33) (size := 2) (g := g) (cap := c2) (nl := ps.length) (vs := outs.flatMap cPG) (by kernel_rfl) (0 + i * 2 + 1) (by rw [flatMap_len cPG_len outs, hol]; omega) (v := .slice A5 (1 + x.ops.length) c5) rfl rfl (E' := 31) (by kernel_rfl) (by kernel_rfl) (by kernel_rfl) ?_
  rw [splice_setP outs i x hx A5 c5 (1 + x.ops.length) (o :: x.ops) (by rw [List.length_cons]; omega)]
  have hsl : (outs.set i ⟨x.n, A5, c5, o :: x.ops⟩).length = ps.length := by rw [List.length_set, hol]
  have hmm : (outs.set i ⟨x.n, A5, c5, o :: x.ops⟩).map PG.m = frontM (ps.map PG.m) i o := by rw [frontM_set outs i x hx, hD.1]
  have hC : ∀ w', Mem w1 L1 ([bl, bi] ++ [b3] ++ [0] ++ [b5]) [.b false 22 [.v (.slice A ps.length c)], .b false 3 [.v (.int .i64 i)], .b true 36 o.sc, .s (some ⟨g, 0, none⟩) c2 ps.length 33 2 ((outs.set i ⟨x.n, A5, c5, o :: x.ops⟩).flatMap cPG), .s A5 c5 (1 + x.ops.length) 36 4 ((o :: x.ops).flatMap cOP)] w' → Calls Tryz.prog 11 #[.slice (some ⟨g, 0, none⟩) ps.length c2, .int .i64 i] w' fun e w2 => e = .returned (.int .i64 (workM (frontM (ps.map PG.m) i o) i)) ∧ Only [] w' w2 := fun w' H => by
    have q3 := Mem.rdX (cf := cPG) (E := 33) (size := 2) (A := some ⟨g, 0, none⟩) (cap := c2) H 3 hsl rfl
    have q4 := Mem.capS (cf := cPG) (E := 33) (size := 2) (A := some ⟨g, 0, none⟩) (cap := c2) H 3 hsl rfl
    have q5 := Mem.rdX (cf := cOP) (E := 36) (size := 4) (A := A5) (cap := c5) (l := o :: x.ops) H 4 (by rw [List.length_cons]; omega) rfl
    have q6 := Mem.capS (cf := cOP) (E := 36) (size := 4) (A := A5) (cap := c5) (l := o :: x.ops) H 4 (by rw [List.length_cons]; omega) rfl
    have := work_any19 (outs.set i ⟨x.n, A5, c5, o :: x.ops⟩) (some ⟨g, 0, none⟩) c2 i w' ⟨q3, by rw [hsl]; exact q4.1, q4.2, fun z hz => ?_⟩
    · rw [hsl, hmm] at this
      exact this
    · rcases List.mem_or_eq_of_mem_set hz with e | e
      · exact (N.now H).1.2 z e
      · rw [e]
        exact ⟨q5, by show (o :: x.ops).length ≤ c5; rw [List.length_cons]; omega, q6.2⟩
  refine Hs.run0 300 (fun _ => by kernel_rfl) ?_
  refine Hs.callV (v := .int .i64 (workM (frontM (ps.map PG.m) i o) i)) (fun w' H => hC w' (Eq.mp (by kernel_rfl) H)) (by kernel_rfl) ?_
  refine Hs.run0 300 (fun _ => by kernel_rfl) ?_
  exact Hs.ret (v := .int .i64 (workM (frontM (ps.map PG.m) i o) i)) Tryz.func12 (by kernel_rfl) fun w' H => ⟨rfl, N.only H⟩
end Go.Proofs.YtmmcamkmglpgiaaGreatDoor

namespace Go.Proofs.YtmmcamkmglpgiaaGreatDoor
set_option linter.all false
set_option maxRecDepth 100000
open Go.RowKit
theorem run_remP {P : Program} {T : TypeId} {a b : Int} (hb : b ≠ 0) (w : World) : (binOp .rem T (.int .i64 a) (.int .i64 b)).run P w = .ok (.int .i64 (a.tmod b)) w := by
  show (Op.intDiv .rem .i64 a b).run P w = _
  unfold Op.intDiv
  rw [if_neg hb]
  rfl
theorem great_at (p : List PG) (A : Option Addr) (c L : Nat) (hl : p.length = L) (w : World) (h : Pgs w A c p) : Calls Tryz.prog 7 #[.slice A L c] w fun e w' => ∃ b : Bool, e = .returned (.bool b) ∧ Only [] w w' ∧ True := by
  subst hl
  refine (great19_any p A c w h).mono ?_
  rintro e w2 ⟨b, rfl, O, _⟩
  exact ⟨b, rfl, O, trivial⟩
theorem check_at (p : List PG) (A : Option Addr) (c L : Nat) (hl : p.length = L) (w : World) (h : Pgs w A c p) {l : List PM} (hm : p.map PG.m = l) : Calls Tryz.prog 9 #[.slice A L c] w fun e w' => e = .returned (.int .i64 (checkM l)) ∧ Only [] w w' := by
  subst hl; subst hm
  exact check_any p A c w h
theorem work_atL (p : List PG) (A : Option Addr) (c L : Nat) (hl : p.length = L) (i : Int) (w : World) (h : Pgs w A c p) {l : List PM} (hm : p.map PG.m = l) : Calls Tryz.prog 11 #[.slice A L c, .int .i64 i] w fun e w' => e = .returned (.int .i64 (workM l i)) ∧ Only [] w w' := by
  subst hl; subst hm
  exact work_any19 p A c i w h
theorem min_if (x : Int) (h0 : 0 ≤ x) (h1 : x ≤ 3221225472) : (if (1073741824 : Int) < IntKind.i64.wrap x then 1073741824 else IntKind.i64.wrap x) = min x 1073741824 := by
  rw [IntWalk.i64_in _ (by omega)]
  split <;> omega
set_option maxHeartbeats 4000000 in
theorem work_law (ps : List PG) (A : Option Addr) (c : Nat) (n : Nat) (hn : n < 256) (w : World) (h : Pgs w A c ps) (hf : PgFew ps) (hS : SLib w) : Calls Tryz.prog 3 #[.slice A ps.length c, .int .u8 n] w (RetB true w) := by
  have hlm : ps.length ≤ maxLen := Nat.le_trans h.le h.max
  unfold maxLen at hlm
  refine Hs.enter Tryz.func3 [] [] [] [.c (.v (.slice A ps.length c)), .c (.v (.int .u8 n))] (Mem.start0 w) (by kernel_rfl) (by kernel_rfl) ?_
  refine Hs.run1 300 (fun _ => by kernel_rfl) fun b2 => ?_
  refine Hs.callV (v := .bool true) (fun w' H => alive_any19 w' (hS.only H.only)) (by kernel_rfl) ?_
  refine Hs.run0 300 (fun _ => by kernel_rfl) ?_
  refine Hs.condF (by kernel_rfl) ?_
  refine Hs.run0 300 (fun _ => by kernel_rfl) ?_
  refine Hs.callM (Nx.start w) (fun w' H => ref19_any ps A c w' (h.only H.only) hf) (by kernel_rfl) (by kernel_rfl) fun z w1 L1 N1 => ?_
  obtain ⟨A1, c1, p1⟩ := z
  have e1 : p1.length = ps.length := PgsP.len (N1.keeps w1 (Only.refl _ _)).1
  refine Hs.run0 300 (fun _ => by kernel_rfl) ?_
  refine Hs.callX (v := fun b => .bool b) (Q := fun _ => True) (fun w' H => great_at p1 A1 c1 ps.length e1 w' (N1.now H).1.1) (by kernel_rfl) fun b _ => ?_
  refine Hs.run0 300 (fun _ => by kernel_rfl) ?_
  refine Hs.bool 16 b (by kernel_rfl) (fun hb => ?_) (fun hb => ?_)
  · refine Hs.rung0 [3] 300 (fun _ => by kernel_rfl) ?_
    refine Hs.condT (by kernel_rfl) ?_
    refine Hs.run0 300 (fun _ => by kernel_rfl) ?_
    exact Hs.ret (v := .bool true) Tryz.func3 (by kernel_rfl) fun w' H => ⟨rfl, N1.only H⟩
  refine Hs.rung0 [3] 300 (fun _ => by kernel_rfl) ?_
  refine Hs.callM N1 (fun w' H => to19_any ps A c w' (h.only (N1.only H)) hf) (by kernel_rfl) (by kernel_rfl) fun z w2 L2 N2 => ?_
  obtain ⟨A2, c2, p2⟩ := z
  have m2 : p2.map PG.m = ps.map PG.m := (N2.keeps w2 (Only.refl _ _)).1.2
  have e2 : p2.length = ps.length := PgsP.len (N2.keeps w2 (Only.refl _ _)).1
  refine Hs.rung0 [3] 300 (fun _ => by kernel_rfl) ?_
  refine Hs.callV (v := .int .i64 (checkM (ps.map PG.m))) (fun w' H => check_at p2 A2 c2 ps.length e2 w' (N2.now H).1.1 m2) (by kernel_rfl) ?_
  refine Hs.rung0 [3] 300 (fun _ => by kernel_rfl) ?_
  refine Hs.cond (!decide (checkM (ps.map PG.m) = 0)) (by kernel_rfl) (fun hc => ?_) (fun hc => ?_)
  · refine Hs.run0 300 (fun _ => by kernel_rfl) ?_
    exact Hs.ret (v := .bool true) Tryz.func3 (by kernel_rfl) fun w' H => ⟨rfl, N2.only H⟩
  have hc : checkM (ps.map PG.m) = 0 := by simpa using hc
  have hl := check_len hc
  rw [List.length_map] at hl
  refine Hs.run0 300 (fun _ => by kernel_rfl) ?_
  refine Hs.callM N2 (fun w' H => to19_any ps A c w' (h.only (N2.only H)) hf) (by kernel_rfl) (by kernel_rfl) fun z w3 L3 N3 => ?_
  obtain ⟨A3, c3, p3⟩ := z
  have m3 : p3.map PG.m = ps.map PG.m := (N3.keeps w3 (Only.refl _ _)).1.2
  have e3 : p3.length = ps.length := PgsP.len (N3.keeps w3 (Only.refl _ _)).1
  refine Hs.runR0 6 [] 300 (fun _ => by kernel_rfl) ?_
  refine Hs.run0 5 (fun _ => by kernel_rfl) ?_
  refine Hs.slot 25 (.c (.v (.int .i64 (n : Nat)))) rfl ((by kernel_rfl : _ = Value.int .i64 (IntKind.i64.wrap (n : Int))).trans (by rw [IntWalk.i64_in _ (by omega)]; rfl)) ?_
  obtain ⟨i, hi0⟩ : ∃ i, i = n % ps.length := ⟨_, rfl⟩
  have hi : i < ps.length := by rw [hi0]; exact Nat.mod_lt _ (by omega)
  have et : ((n : Nat) : Int).tmod (ps.length : Int) = (i : Int) := by rw [Int.tmod_eq_emod_of_nonneg (Int.natCast_nonneg n), hi0]; rfl
  refine Hs.bin (op := .rem) (T := 3) (k := .i64) (k' := .i64) (a := (n : Int)) (b := (ps.length : Int)) (.int .i64 (i : Nat)) (by kernel_rfl) (fun w => by rw [run_remP (by omega), et]) ?_
  obtain ⟨x, hx⟩ : ∃ x, p3[i]? = some x := ⟨_, List.getElem?_eq_getElem (by omega)⟩
  have hlx : (ps.map PG.m)[i]? = some x.m := by rw [← m3, List.getElem?_map, hx]; rfl
  obtain ⟨ab, aoff, hA, _, _⟩ := (N3.keeps w3 (Only.refl _ _)).1.1.rd (by dsimp only; omega)
  dsimp only at hA
  subst hA
  refine Hs.run1 300 (fun _ => by kernel_rfl) fun b6 => ?_
  refine Hs.idx (b := ab) (off := aoff) (len := ps.length) (c := c3) (i := i) elemPr hi (by kernel_rfl) ?_
  refine Hs.run0 300 (fun _ => by kernel_rfl) ?_
  refine Hs.ldc (E' := 31) (b := ab) (off := aoff + i * 2 + 1) (.slice x.A x.ops.length x.c) (by kernel_rfl) (fun w' H => rdX_cell cPG_len (N3.now H).1.1.rd hx (j := 1) rfl) (by kernel_rfl) ?_
  refine Hs.run0 300 (fun _ => by kernel_rfl) ?_
  refine Hs.cond (decide ((64 : Int) ≤ (x.ops.length : Int))) (by kernel_rfl) (fun h6 => ?_) (fun h6 => ?_)
  · refine Hs.run0 300 (fun _ => by kernel_rfl) ?_
    exact Hs.ret (v := .bool true) Tryz.func3 (by kernel_rfl) fun w' H => ⟨rfl, N3.only H⟩
  have h6 : x.m.2.length < 64 := by have := of_decide_eq_false h6; show x.ops.length < 64; omega
  have hwas := work_bd (ps.map PG.m) i
  have hF : ∀ (o : OP9) (v : Int), workM (frontM (ps.map PG.m) i o) i = v → ∀ w', Mem w3 L3 ([] ++ [b2] ++ [b6]) [.b true 22 [.v (.slice A ps.length c)], .b true 3 [.v (.int .i64 (i : Nat))]] w' → Calls Tryz.prog 12 #[.agg (cOP o).toArray, .pointer (some ⟨b2, 0, none⟩), .pointer (some ⟨b6, 0, none⟩)] w' fun e w2 => e = .returned (.int .i64 v) ∧ Only [] w' w2 := fun o v hv w' H => by
    subst hv
    have hnd : [b2, b6].Nodup := (Mem.bks H rfl).1
    exact front_any ps A c i o b2 b6 (fun e => by subst e; simp at hnd) w' (h.only (N3.only H)) hf hi (H.at 0 rfl) (H.at 1 rfl)
  have J : ∀ (d k : Nat), ps.length - k = d → i < k → k ≤ ps.length → ∀ (u : Nat → Value), Hs Tryz.prog ⟨3, none⟩ (RetB true w) (Tryz.f3).ntmps w3 L3 [b2, b6] ⟨.no, loopAt Tryz.f3 0, pins [(2, .c (.p 0 0)), (5, .c (.v (.slice (some ⟨ab, aoff, none⟩) ps.length c3))), (7, .c (.v (.int .i64 (workM (ps.map PG.m) i)))), (8, .c (.v (.func (.func 12) #[] #[.pointer (some ⟨b2, 0, none⟩), .pointer (some ⟨b6, 0, none⟩)]))), (9, .c (.v (.int .i64 (k : Nat))))] (.vals u), [.b true 22 [.v (.slice A ps.length c)], .b true 3 [.v (.int .i64 (i : Nat))]]⟩ := by
    intro d
    induction d with
    | zero =>
      intro k hd hik hk u
      obtain rfl : k = ps.length := by omega
      refine Hs.run0 300 (fun _ => by kernel_rfl) ?_
      refine Hs.condP ((ps.length : Int) < (ps.length : Int)) (by kernel_rfl) (fun h => by omega) (fun _ => ?_)
      refine Hs.run0 300 (fun _ => by kernel_rfl) ?_
      refine Hs.bool 86 (decide (0 ≤ workM (ps.map PG.m) i)) (by kernel_rfl) (fun _ => ?_) (fun h => absurd hwas.1 (of_decide_eq_false h))
      refine Hs.rung0 [2] 300 (fun _ => by kernel_rfl) ?_
      exact Hs.ret (v := .bool (decide (workM (ps.map PG.m) i ≤ 1073741824))) Tryz.func3 (by kernel_rfl) fun w' H => ⟨by rw [decide_eq_true hwas.2], N3.only H⟩
    | succ d ih =>
      intro k hd hik hk u
      have hkl : k < ps.length := by omega
      have hih := fun u => ih (k + 1) (by omega) (by omega) (by omega) u
      clear ih
      have hwk := work_bd (ps.map PG.m) k
      have hk2 : k < (ps.map PG.m).length := by rw [List.length_map]; exact hkl
      refine Hs.run0 300 (fun _ => by kernel_rfl) ?_
      refine Hs.condP ((k : Int) < (ps.length : Int)) (by kernel_rfl) (fun _ => ?_) (fun h => by omega)
      refine Hs.run0 300 (fun _ => by kernel_rfl) ?_
      refine Hs.callV (v := .int .i64 (workM (ps.map PG.m) k)) (fun w' H => work_atL p3 (some ⟨ab, aoff, none⟩) c3 ps.length e3 k w' (N3.now H).1.1 m3) (by kernel_rfl) ?_
      refine Hs.run0 300 (fun _ => by kernel_rfl) ?_
      refine Hs.callV (v := .int .i64 (min (workM (ps.map PG.m) i + 1 + workM (ps.map PG.m) k) 1073741824)) (fun w' H => hF ⟨5, k, 0, ⟨#[]⟩⟩ _ (fork_law hc hlx h6 hik hk2) w' (Eq.mp (by kernel_rfl) H)) (by kernel_rfl) ?_
      refine Hs.run0 300 (fun _ => by kernel_rfl) ?_
      refine Hs.slot 74 (.c (.v (.bool false))) rfl ((by kernel_rfl : _ = Value.bool (!decide (min (workM (ps.map PG.m) i + 1 + workM (ps.map PG.m) k) 1073741824 = (if (1073741824 : Int) < IntKind.i64.wrap (IntKind.i64.wrap (workM (ps.map PG.m) i + 1) + workM (ps.map PG.m) k) then 1073741824 else IntKind.i64.wrap (IntKind.i64.wrap (workM (ps.map PG.m) i + 1) + workM (ps.map PG.m) k))))).trans (by rw [IntWalk.i64_in (workM (ps.map PG.m) i + 1) (by omega), min_if _ (by omega) (by omega)]; simp [SV.den, SC.den])) ?_
      refine Hs.rung0 [10] 300 (fun _ => by kernel_rfl) ?_
      refine Hs.callV (v := .int .i64 (min (1 + workM (ps.map PG.m) k) 1073741824)) (fun w' H => hF ⟨6, k, 0, ⟨#[]⟩⟩ _ (exec_law hc hlx h6 hik hk2) w' (Eq.mp (by kernel_rfl) H)) (by kernel_rfl) ?_
      refine Hs.rung0 [10] 300 (fun _ => by kernel_rfl) ?_
      refine Hs.slot 83 (.c (.v (.bool false))) rfl ((by kernel_rfl : _ = Value.bool (!decide (min (1 + workM (ps.map PG.m) k) 1073741824 = (if (1073741824 : Int) < IntKind.i64.wrap (1 + workM (ps.map PG.m) k) then 1073741824 else IntKind.i64.wrap (1 + workM (ps.map PG.m) k))))).trans (by rw [min_if _ (by omega) (by omega)]; simp [SV.den, SC.den])) ?_
      refine Hs.condF (by kernel_rfl) ?_
      refine Hs.run0 300 (fun _ => by kernel_rfl) ?_
      refine Hs.slot 9 (.c (.v (.int .i64 (k + 1 : Nat)))) rfl ((by kernel_rfl : _ = Value.int .i64 (IntKind.i64.wrap ((k : Int) + 1))).trans (wrap_nextK (by omega))) ?_
      refine Hs.loop (by kernel_rfl) ?_
      exact Hs.goto (loopAt Tryz.f3 0) [0, 1] [.b true 22 [.v (.slice A ps.length c)], .b true 3 [.v (.int .i64 (i : Nat))]] [(2, .c (.p 0 0)), (5, .c (.v (.slice (some ⟨ab, aoff, none⟩) ps.length c3))), (7, .c (.v (.int .i64 (workM (ps.map PG.m) i)))), (8, .c (.v (.func (.func 12) #[] #[.pointer (some ⟨b2, 0, none⟩), .pointer (some ⟨b6, 0, none⟩)]))), (9, .c (.v (.int .i64 (k + 1 : Nat))))] (by kernel_rfl) (by decide) (by kernel_rfl) (by kernel_rfl) (fun _ => (by kernel_rfl)) (fun u => hih u)
  refine Hs.run0 300 (fun _ => by kernel_rfl) ?_
  refine Hs.callV (v := .int .i64 (workM (ps.map PG.m) i)) (fun w' H => work_atL p3 (some ⟨ab, aoff, none⟩) c3 ps.length e3 i w' (N3.now H).1.1 m3) (by kernel_rfl) ?_
  refine Hs.run0 300 (fun _ => by kernel_rfl) ?_
  refine Hs.callV (v := .int .i64 (min (workM (ps.map PG.m) i + 1) 1073741824)) (fun w' H => hF ⟨16, 0, 0, ⟨#[]⟩⟩ _ (copy_law hc hlx h6) w' (Eq.mp (by kernel_rfl) H)) (by kernel_rfl) ?_
  refine Hs.run0 300 (fun _ => by kernel_rfl) ?_
  refine Hs.slot 47 (.c (.v (.bool false))) rfl ((by kernel_rfl : _ = Value.bool (!decide (min (workM (ps.map PG.m) i + 1) 1073741824 = (if (1073741824 : Int) < IntKind.i64.wrap (workM (ps.map PG.m) i + 1) then 1073741824 else IntKind.i64.wrap (workM (ps.map PG.m) i + 1))))).trans (by rw [min_if _ (by omega) (by omega)]; simp [SV.den, SC.den])) ?_
  refine Hs.rung0 [7] 300 (fun _ => by kernel_rfl) ?_
  refine Hs.callV (v := .int .i64 1) (fun w' H => hF ⟨1, 7, 0, ⟨#[]⟩⟩ _ (exit_law hc hlx h6) w' (Eq.mp (by kernel_rfl) H)) (by kernel_rfl) ?_
  refine Hs.rung0 [7] 300 (fun _ => by kernel_rfl) ?_
  refine Hs.condF (by kernel_rfl) ?_
  refine Hs.run0 300 (fun _ => by kernel_rfl) ?_
  refine Hs.slot 9 (.c (.v (.int .i64 (i + 1 : Nat)))) rfl ((by kernel_rfl : _ = Value.int .i64 (IntKind.i64.wrap ((i : Int) + 1))).trans (wrap_nextK (by omega))) ?_
  refine Hs.loop (by kernel_rfl) ?_
  exact Hs.goto (loopAt Tryz.f3 0) [0, 1] [.b true 22 [.v (.slice A ps.length c)], .b true 3 [.v (.int .i64 (i : Nat))]] [(2, .c (.p 0 0)), (5, .c (.v (.slice (some ⟨ab, aoff, none⟩) ps.length c3))), (7, .c (.v (.int .i64 (workM (ps.map PG.m) i)))), (8, .c (.v (.func (.func 12) #[] #[.pointer (some ⟨b2, 0, none⟩), .pointer (some ⟨b6, 0, none⟩)]))), (9, .c (.v (.int .i64 (i + 1 : Nat))))] (by kernel_rfl) (by decide) (by kernel_rfl) (by kernel_rfl) (fun _ => (by kernel_rfl)) (fun u => J (ps.length - (i + 1)) (i + 1) rfl (by omega) (by omega) u)
end Go.Proofs.YtmmcamkmglpgiaaGreatDoor

namespace Go.Proofs.YtmmcamkmglpgiaaGreatDoor
set_option linter.all false
set_option maxRecDepth 100000
open Go.RowKit
theorem from_at (p : List PG) (A : Option Addr) (c L : Nat) (hl : p.length = L) (w : World) (h : Pgs w A c p) (hf : PgFew p) : Calls Tryz.prog 16 #[.slice A L c] w (NewX w (fun z : PX => .slice z.1 L z.2.1) (PgsP p)) := by
  subst hl
  exact from19_any p A c w h hf
theorem print_at (p : List PG) (A : Option Addr) (c L : Nat) (hl : p.length = L) (w : World) (h : Pgs w A c p) (hS : SLib w) {l : List PM} (hm : p.map PG.m = l) : Calls Tryz.prog 13 #[.slice A L c] w (PrintR l w) := by
  subst hl; subst hm
  exact print_any19 p A c w h hS
theorem same_at (xs ys : List PG) (A B : Option Addr) (ca cb n1 n2 : Nat) (h1 : xs.length = n1) (h2 : ys.length = n2) (w : World) (ha : Pgs w A ca xs) (hb : Pgs w B cb ys) (hm : ys.map PG.m = xs.map PG.m) : Calls Tryz.prog 15 #[.slice A n1 ca, .slice B n2 cb] w fun e w' => e = .returned (.bool true) ∧ Only [] w w' := by
  subst h1; subst h2
  exact rsame19_any xs ys A B ca cb w ha hb hm
theorem few_of {p q : List PG} (h : PgFew q) (hm : p.map PG.m = q.map PG.m) : PgFew p := by
  have hl : p.length = q.length := by simpa using congrArg List.length hm
  refine ⟨by rw [hl]; exact h.len, fun x hx => ?_⟩
  have h1 : x.m ∈ q.map PG.m := hm ▸ List.mem_map_of_mem hx
  obtain ⟨y, hy, e⟩ := List.mem_map.1 h1
  have e2 : y.ops = x.ops := congrArg Prod.snd e
  rw [← e2]
  exact h.ops y hy
set_option maxHeartbeats 8000000 in
theorem back_law (ps : List PG) (A : Option Addr) (c : Nat) (s : List UInt8) (w : World) (h : Pgs w A c ps) (hf : PgFew ps) (hS : SLib w) : Calls Tryz.prog 5 #[.slice A ps.length c, .string (strL s)] w (RetB true w) := by
  refine Hs.enter Tryz.func5 [] [] [] [.c (.v (.slice A ps.length c)), .c (.v (.string (strL s)))] (Mem.start0 w) (by kernel_rfl) (by kernel_rfl) ?_
  refine Hs.run0 300 (fun _ => by kernel_rfl) ?_
  refine Hs.callV (v := .bool true) (fun w' H => alive_any19 w' (hS.only H.only)) (by kernel_rfl) ?_
  refine Hs.run0 300 (fun _ => by kernel_rfl) ?_
  refine Hs.condF (by kernel_rfl) ?_
  refine Hs.run0 300 (fun _ => by kernel_rfl) ?_
  refine Hs.callM (Nx.start w) (fun w' H => ref19_any ps A c w' (h.only H.only) hf) (by kernel_rfl) (by kernel_rfl) fun z w1 L1 N1 => ?_
  obtain ⟨A1, c1, p1⟩ := z
  have e1 : p1.length = ps.length := PgsP.len (N1.keeps w1 (Only.refl _ _)).1
  refine Hs.run0 300 (fun _ => by kernel_rfl) ?_
  refine Hs.callX (v := fun b => .bool b) (Q := fun _ => True) (fun w' H => great_at p1 A1 c1 ps.length e1 w' (N1.now H).1.1) (by kernel_rfl) fun b _ => ?_
  refine Hs.run0 300 (fun _ => by kernel_rfl) ?_
  refine Hs.bool 18 b (by kernel_rfl) (fun hb => ?_) (fun hb => ?_)
  · refine Hs.rung0 [3] 300 (fun _ => by kernel_rfl) ?_
    refine Hs.condT (by kernel_rfl) ?_
    refine Hs.run0 300 (fun _ => by kernel_rfl) ?_
    exact Hs.ret (v := .bool true) Tryz.func5 (by kernel_rfl) fun w' H => ⟨rfl, N1.only H⟩
  refine Hs.rung0 [3] 300 (fun _ => by kernel_rfl) ?_
  refine Hs.cond (decide ((s.length : Int) > 20000)) (by kernel_rfl) (fun _ => ?_) (fun hs => ?_)
  · refine Hs.run0 300 (fun _ => by kernel_rfl) ?_
    exact Hs.ret (v := .bool true) Tryz.func5 (by kernel_rfl) fun w' H => ⟨rfl, N1.only H⟩
  refine Hs.run0 300 (fun _ => by kernel_rfl) ?_
  refine Hs.callM N1 (fun w' H => to19_any ps A c w' (h.only (N1.only H)) hf) (by kernel_rfl) (by kernel_rfl) fun z w2 L2 N2 => ?_
  obtain ⟨A2, c2, p2⟩ := z
  have m2 : p2.map PG.m = ps.map PG.m := (N2.keeps w2 (Only.refl _ _)).1.2
  have e2 : p2.length = ps.length := PgsP.len (N2.keeps w2 (Only.refl _ _)).1
  refine Hs.run0 300 (fun _ => by kernel_rfl) ?_
  obtain ⟨S, hSd⟩ : ∃ S, S = (if checkM (ps.map PG.m) = 0 then printL (ps.map PG.m) else []) := ⟨_, rfl⟩
  obtain ⟨l, hL⟩ : ∃ l, l = ps.map PG.m := ⟨_, rfl⟩
  rw [← hL] at m2 hSd
  have hll : l.length = ps.length := by rw [hL, List.length_map]
  refine Hs.callV (v := .tuple #[.string (strL S), .int .i64 (checkM l)]) (fun w' H => by have := print_at p2 A2 c2 ps.length e2 w' (N2.now H).1.1 (hS.only (N2.only H)) m2; unfold PrintR at this; rw [← hSd] at this; exact this) (by kernel_rfl) ?_
  refine Hs.run0 300 (fun _ => by kernel_rfl) ?_
  refine Hs.bool 31 (decide (checkM l = 0)) (by kernel_rfl) (fun hc => ?_) (fun hc => ?_)
  · have hc : checkM l = 0 := of_decide_eq_true hc
    rw [if_pos hc] at hSd
    rw [hc]
    refine Hs.rung0 [2] 300 (fun _ => by kernel_rfl) ?_
    refine Hs.cond (decide ((S.length : Int) ≤ 262144)) (by kernel_rfl) (fun hs2 => ?_) (fun _ => ?_)
    · have hs2 : S.length ≤ 262144 := by have := of_decide_eq_true hs2; omega
      have hpar : parseM S = (some l, 0) := by rw [hSd]; exact print_parse hc (by rw [← hSd]; exact hs2)
      refine Hs.run0 300 (fun _ => by kernel_rfl) ?_
      refine Hs.callM N2 (fun w' H => parse_new S w' (hS.only (N2.only H)) hpar) (by kernel_rfl) (by kernel_rfl) fun z w3 L3 N3 => ?_
      obtain ⟨A3, c3, p3⟩ := z
      have m3 : p3.map PG.m = l := (N3.keeps w3 (Only.refl _ _)).1.2
      have e3 : p3.length = l.length := by rw [← m3, List.length_map]
      refine Hs.run0 300 (fun _ => by kernel_rfl) ?_
      refine Hs.rung0 [2] 300 (fun _ => by kernel_rfl) ?_
      refine Hs.callM N3 (fun w' H => from_at p3 A3 c3 l.length e3 w' (N3.now H).1.1 (few_of hf (by rw [m3, hL]))) (by kernel_rfl) (by kernel_rfl) fun z w4 L4 N4 => ?_
      obtain ⟨A4, c4, p4⟩ := z
      have m4 : p4.map PG.m = p3.map PG.m := (N4.keeps w4 (Only.refl _ _)).1.2
      have e4 : p4.length = l.length := (PgsP.len (N4.keeps w4 (Only.refl _ _)).1).trans e3
      refine Hs.rung0 [2] 300 (fun _ => by kernel_rfl) ?_
      refine Hs.callM N4 (fun w' H => ref19_any ps A c w' (h.only (N4.only H)) hf) (by kernel_rfl) (by kernel_rfl) fun z w5 L5 N5 => ?_
      obtain ⟨A5, c5, p5⟩ := z
      have m5 : p5.map PG.m = ps.map PG.m := (N5.keeps w5 (Only.refl _ _)).1.2
      have e5 : p5.length = ps.length := PgsP.len (N5.keeps w5 (Only.refl _ _)).1
      refine Hs.rung0 [2] 300 (fun _ => by kernel_rfl) ?_
      refine Hs.callV (v := .bool true) (fun w' H => same_at p4 p5 A4 A5 c4 c5 l.length ps.length e4 e5 w' (N5.now H).2.1.1 (N5.now H).1.1 (by rw [m5, m4, m3, hL])) (by kernel_rfl) ?_
      refine Hs.rung0 [2] 300 (fun _ => by kernel_rfl) ?_
      refine Hs.condF (by kernel_rfl) ?_
      refine Hs.run0 300 (fun _ => by kernel_rfl) ?_
      cases hp : parseM s with
      | mk o pi =>
      cases o with
      | none =>
        have hpi := parse_none hp
        refine Hs.callV (v := .tuple #[.slice none 0 0, .int .i64 pi]) (fun w' H => parse_bad s w' (hS.only (N5.only H)) hp) (by kernel_rfl) ?_
        refine Hs.run0 300 (fun _ => by kernel_rfl) ?_
        refine Hs.cond (!decide (pi = 0)) (by kernel_rfl) (fun _ => ?_) (fun h => absurd (by simpa using h) hpi)
        refine Hs.run0 300 (fun _ => by kernel_rfl) ?_
        exact Hs.ret (v := .bool true) Tryz.func5 (by kernel_rfl) fun w' H => ⟨rfl, N5.only H⟩
      | some m =>
        obtain ⟨hpi, hpc, hpp⟩ := parse_print hp
        subst hpi
        refine Hs.callM N5 (fun w' H => parse_new s w' (hS.only (N5.only H)) hp) (by kernel_rfl) (by kernel_rfl) fun z w8 L8 N8 => ?_
        obtain ⟨A8, c8, p8⟩ := z
        have m8 : p8.map PG.m = m := (N8.keeps w8 (Only.refl _ _)).1.2
        have e8 : p8.length = m.length := by rw [← m8, List.length_map]
        refine Hs.run0 300 (fun _ => by kernel_rfl) ?_
        refine Hs.condF (by kernel_rfl) ?_
        refine Hs.run0 300 (fun _ => by kernel_rfl) ?_
        refine Hs.callV (v := .tuple #[.string (strL s), .int .i64 0]) (fun w' H => (print_at p8 A8 c8 m.length e8 w' (N8.now H).1.1 (hS.only (N8.only H)) m8).mono (fun e w2 h => by unfold PrintR at h; rw [if_pos hpc, hpp, hpc] at h; exact h)) (by kernel_rfl) ?_
        refine Hs.run0 300 (fun _ => by kernel_rfl) ?_
        refine Hs.callV (v := .int .i64 0) (fun w' H => (check_at p8 A8 c8 m.length e8 w' (N8.now H).1.1 m8).mono (fun e w2 h => by rw [hpc] at h; exact h)) (by kernel_rfl) ?_
        refine Hs.rung0 [3] 300 (fun _ => by kernel_rfl) ?_
        refine Hs.rung0 [3, 7] 300 (fun _ => by kernel_rfl) ?_
        exact Hs.ret (v := .bool ((strL s).toList == (strL s).toList)) Tryz.func5 (by kernel_rfl) fun w' H => ⟨by simp, N8.only H⟩
    · refine Hs.run0 300 (fun _ => by kernel_rfl) ?_
      cases hp : parseM s with
      | mk o pi =>
      cases o with
      | none =>
        have hpi := parse_none hp
        refine Hs.callV (v := .tuple #[.slice none 0 0, .int .i64 pi]) (fun w' H => parse_bad s w' (hS.only (N2.only H)) hp) (by kernel_rfl) ?_
        refine Hs.run0 300 (fun _ => by kernel_rfl) ?_
        refine Hs.cond (!decide (pi = 0)) (by kernel_rfl) (fun _ => ?_) (fun h => absurd (by simpa using h) hpi)
        refine Hs.run0 300 (fun _ => by kernel_rfl) ?_
        exact Hs.ret (v := .bool true) Tryz.func5 (by kernel_rfl) fun w' H => ⟨rfl, N2.only H⟩
      | some m =>
        obtain ⟨hpi, hpc, hpp⟩ := parse_print hp
        subst hpi
        refine Hs.callM N2 (fun w' H => parse_new s w' (hS.only (N2.only H)) hp) (by kernel_rfl) (by kernel_rfl) fun z w8 L8 N8 => ?_
        obtain ⟨A8, c8, p8⟩ := z
        have m8 : p8.map PG.m = m := (N8.keeps w8 (Only.refl _ _)).1.2
        have e8 : p8.length = m.length := by rw [← m8, List.length_map]
        refine Hs.run0 300 (fun _ => by kernel_rfl) ?_
        refine Hs.condF (by kernel_rfl) ?_
        refine Hs.run0 300 (fun _ => by kernel_rfl) ?_
        refine Hs.callV (v := .tuple #[.string (strL s), .int .i64 0]) (fun w' H => (print_at p8 A8 c8 m.length e8 w' (N8.now H).1.1 (hS.only (N8.only H)) m8).mono (fun e w2 h => by unfold PrintR at h; rw [if_pos hpc, hpp, hpc] at h; exact h)) (by kernel_rfl) ?_
        refine Hs.run0 300 (fun _ => by kernel_rfl) ?_
        refine Hs.callV (v := .int .i64 0) (fun w' H => (check_at p8 A8 c8 m.length e8 w' (N8.now H).1.1 m8).mono (fun e w2 h => by rw [hpc] at h; exact h)) (by kernel_rfl) ?_
        refine Hs.rung0 [3] 300 (fun _ => by kernel_rfl) ?_
        refine Hs.rung0 [3, 7] 300 (fun _ => by kernel_rfl) ?_
        exact Hs.ret (v := .bool ((strL s).toList == (strL s).toList)) Tryz.func5 (by kernel_rfl) fun w' H => ⟨by simp, N8.only H⟩
  · refine Hs.rung0 [2] 300 (fun _ => by kernel_rfl) ?_
    refine Hs.condF (by kernel_rfl) ?_
    refine Hs.run0 300 (fun _ => by kernel_rfl) ?_
    cases hp : parseM s with
    | mk o pi =>
    cases o with
    | none =>
      have hpi := parse_none hp
      refine Hs.callV (v := .tuple #[.slice none 0 0, .int .i64 pi]) (fun w' H => parse_bad s w' (hS.only (N2.only H)) hp) (by kernel_rfl) ?_
      refine Hs.run0 300 (fun _ => by kernel_rfl) ?_
      refine Hs.cond (!decide (pi = 0)) (by kernel_rfl) (fun _ => ?_) (fun h => absurd (by simpa using h) hpi)
      refine Hs.run0 300 (fun _ => by kernel_rfl) ?_
      exact Hs.ret (v := .bool true) Tryz.func5 (by kernel_rfl) fun w' H => ⟨rfl, N2.only H⟩
    | some m =>
      obtain ⟨hpi, hpc, hpp⟩ := parse_print hp
      subst hpi
      refine Hs.callM N2 (fun w' H => parse_new s w' (hS.only (N2.only H)) hp) (by kernel_rfl) (by kernel_rfl) fun z w8 L8 N8 => ?_
      obtain ⟨A8, c8, p8⟩ := z
      have m8 : p8.map PG.m = m := (N8.keeps w8 (Only.refl _ _)).1.2
      have e8 : p8.length = m.length := by rw [← m8, List.length_map]
      refine Hs.run0 300 (fun _ => by kernel_rfl) ?_
      refine Hs.condF (by kernel_rfl) ?_
      refine Hs.run0 300 (fun _ => by kernel_rfl) ?_
      refine Hs.callV (v := .tuple #[.string (strL s), .int .i64 0]) (fun w' H => (print_at p8 A8 c8 m.length e8 w' (N8.now H).1.1 (hS.only (N8.only H)) m8).mono (fun e w2 h => by unfold PrintR at h; rw [if_pos hpc, hpp, hpc] at h; exact h)) (by kernel_rfl) ?_
      refine Hs.run0 300 (fun _ => by kernel_rfl) ?_
      refine Hs.callV (v := .int .i64 0) (fun w' H => (check_at p8 A8 c8 m.length e8 w' (N8.now H).1.1 m8).mono (fun e w2 h => by rw [hpc] at h; exact h)) (by kernel_rfl) ?_
      refine Hs.rung0 [3] 300 (fun _ => by kernel_rfl) ?_
      refine Hs.rung0 [3, 7] 300 (fun _ => by kernel_rfl) ?_
      exact Hs.ret (v := .bool ((strL s).toList == (strL s).toList)) Tryz.func5 (by kernel_rfl) fun w' H => ⟨by simp, N8.only H⟩
end Go.Proofs.YtmmcamkmglpgiaaGreatDoor

namespace Go.Proofs.YtmmcamkmglpgiaaGreatDoor
open Go.Shelf Go.RowKit Go.Lib Go.ChangeShapes Go.WideShapes Go.ChangeAt Go.Deep
set_option linter.all false
set_option maxRecDepth 100000
theorem open_strW {H : Type} {enc : TypeId × Value → H} {w : World} {base : Nat} {spare : Nat → Bool} {held : Bool} {R : Nat} {r : Reach} {b0 : Nat} {v : Value} {d : DataW H} {p : List MemPlace} (hW : ∀ q ∈ d.weights Tryz.prog 9, q ≤ R) (hv : Value.okWide Tryz.prog w r b0 9 v) (h : DataW.Trod enc Tryz.prog w base spare held 9 v d p) : ∃ s : ByteArray, v = .string s ∧ s.size ≤ maxLen ∧ s.size ≤ R := by
  obtain ⟨s0, rfl⟩ := okWide_string Tryz.underlying9 hv
  obtain ⟨fuel, hf⟩ := h
  exact TrodW.str Tryz.underlying9 ⟨_, hf, hW⟩
theorem slib_back {W : World} (hL : laidMetH Tryz.prog Rows.programBackRow.laid W) {m : Int} (hm : W.cell? ⟨0, 0, none⟩ = some (.int .i64 m)) : SLib W := by
  rw [MakeChecks.laidMetH_plain _ _ _ (by kernel_rfl)] at hL
  exact slib_laid hL hm
theorem back_lawI (ps : List PG) (A : Option Addr) (c : Nat) (R : Nat) (s : ByteArray) (w : World) (h : PgIn w R A c ps) (hX : laidMetH Tryz.prog Rows.programBackRow.laid w.memory) (m : Int) (hm : w.cell? ⟨0, 0, none⟩ = some (.int .i64 m)) : Calls Tryz.prog 5 #[.slice A ps.length c, .string s] w (RetB true w) := by
  have hS0 : SLib w.memory := slib_back hX (m := m) hm
  have hS : SLib w := ⟨hS0.syn, hS0.rng, hS0.tab, hS0.max⟩
  rw [strL_of s]
  exact back_law ps A c s.data.toList w h.pgs h.few hS
end Go.Proofs.YtmmcamkmglpgiaaGreatDoor

namespace Go.Proofs.YtmmcamkmglpgiaaGreatDoor
set_option linter.all false
open Go.ChangeShapes Go.WideShapes Go.ChangeAt Go.RowKit Go.Deep

/-- What the walk of a law is handed: the arguments read as data, how much each takes, the world's shape. -/
def LawWalkT (P : Program) (f : FuncId) (fn : Func) (X : World → Prop) : Prop :=
  ∀ (H : Type) (enc : TypeId × Value → H) (W : World) (base : Nat) (args : Array Value) (ds : List (DataW H)) (ps : List MemPlace),
    (∀ (j : Nat) t v, fn.params[j]? = some t → args[j]? = some v → Value.okWide P W .any base t v) →
    DataW.TrodAll enc P W 0 (fun _ => true) true fn.params.toList args.toList ds ps →
    (DataW.weightsEach P fn.params.toList ds).all (· ≤ reachBytes) = true →
    W.ShapedOpen P → X W.memory →
    Calls P f args W fun e W' => e = .returned (.bool true) ∧ Below W.heap.size W W'

theorem law_liftedT {C : Checked} {tb : TypeId} (own : ownKnob C.prog.godebug = none) (laidOut : laidOutB C.prog = true) (hb : C.prog.underlying tb = some .bool) (f : FuncId) (fn : Func) (s : ChangeSpec)
    (hfn : C.prog.funcs[f]? = some fn) (noInit : C.prog.inits.idxOf? f = none) (hres : fn.resultTypes = #[tb])
    (hread : readsAll C.prog fn.params.toList = true) (hv : s.vars = [])
    (hs : ∀ (H : Type) (ds : List (DataW H)), ds.length = fn.params.size → s.fn H ds = { results := [.lit (.bool true)], args := ds })
    (X : World → Prop)
    (walk : LawWalkT C.prog f fn X) (os : Os) (started : os.Started) (H : Type) (enc : TypeId × Value → H)
    (witness : ∃ (w : World) (tape : Tape) (i : Input), w.os = os ∧ (w.forCall tape i).Shaped C.prog ∧ i.vars = [] ∧ Input.okWide C.prog (w.forCall tape i) .any w.heap.size f i ∧
      ((s.pre enc C.prog fn [] false (w.forCall tape i).memory i.args ∧ X (w.forCall tape i).memory) ∧ sizedMet enc C.prog fn (OpenSpec.ofChange s) false (w.forCall tape i).memory i.args) ∧ Assume.holds {} C.prog (lone (Frame.enter C.prog f i.args .normal) [] (w.forCall tape i))) :
    ReturnsInHanded {} C os f .any (fun w args => (s.pre enc C.prog fn [] false w args ∧ X w) ∧ sizedMet enc C.prog fn (OpenSpec.ofChange s) false w args) (s.post enc C.prog fn false true false false) := by
  refine returnsInHanded_of_calls own started noInit witness ?_
  intro w tape i _ hsh _ hok hpre hholds
  obtain ⟨_, _, _, fn', hfn', _, _, _, _, hval⟩ := hok
  have e : fn' = fn := Option.some.inj (hfn'.symm.trans hfn)
  subst e
  obtain ⟨⟨⟨ds, gs, before, hw, hc⟩, hX⟩, hz⟩ := hpre
  have hW := DataW.Whole.of_heap (w' := w.forCall tape i) (by rfl) hw
  have hsz := hz.weights hw
  have hW' := hW
  obtain ⟨p, q, hA, hV, rfl, hfz, hnd⟩ := hW
  have hty : (OpenSpec.ofChange s).bare.plain.varTypes C.prog = [] := by simp [OpenSpec.ofChange, OpenSpec.bare, ChangeSpec.plain, hv, DataSpec.varTypes]
  have hV0 := hV
  rw [hv] at hV0
  obtain ⟨rfl, rfl⟩ := trodVars_none hV0
  rw [hty, List.append_nil, List.append_nil] at hsz
  have hlt := DataW.TrodAll.lt hA
  have hlen : ds.length = fn'.params.size := by have := trodAll_len _ _ _ _ hA; simpa using this
  have hfnc := hs H ds hlen
  refine (walk H enc (w.forCall tape i) w.heap.size i.args ds p hval hA hsz hsh hX).mono fun e W' ⟨he, bel⟩ => ?_
  subst he
  refine ChangeSpec.post_blind ⟨ds, [], p ++ [], [], p, [], hW', ?_, ?_, ?_, bel.frame _, fun h => by cases h⟩
  · rw [hres, List.append_nil, hfnc]
    exact trodAll_mk1 (shut_bool hb _)
  · rw [List.append_nil, hfnc]
    exact trodAll_stays laidOut bel _ _ _ _ hread hA hlt
  · rw [hv, List.append_nil, hfnc]
    rfl
end Go.Proofs.YtmmcamkmglpgiaaGreatDoor
