/- Small laws on memory: a block known whole, which old blocks may have turned, copy between blocks; over any program, no condition · The walk of the reference's Bytes: whether two slices of bytes read alike; for all slices, no condition · Slices of bytes that a call has made itself: what they read as; append to them; over the program's own type of bytes, no condition · append to a slice of bytes of the call's own, and where the new slice lies; no condition · append to a slice of bytes of the call's own, as one step of a region that draws its order; no condition. -/
import Derived.Test.YtmmcamkmglpgiaaGreatDoorKit
import Derived.Laws.CopyOwn
import Derived.Laws.Rows
import Derived.Laws.OwnMore
import Derived.Laws.AppendOwn
import Derived.StillTailTactics
import Derived.Deep.AppendLies
import Derived.Test.YtmmcamkmglpgiaaGreatDoorFrame
import Derived.Laws.AppendOwnNone
import Derived.Deep.RegionLaw
namespace Go.Proofs.YtmmcamkmglpgiaaGreatDoor
set_option linter.all false
open Go.RowKit

/-- Block g is just the cells cs of element type t, none frozen. -/
def Blk (w : World) (g : Nat) (t : TypeId) (cs : List Value) : Prop := w.heap[g]? = some (.cells cs.toArray t (0, 0))
/-- Of the blocks of w only those of L have turned; there may be new ones. -/
structure Only (L : List Nat) (w w' : World) : Prop where
  os : w'.os = w.os
  tape : w'.tape = w.tape
  output : w'.output = w.output
  size : w.heap.size ≤ w'.heap.size
  block : ∀ k, k < w.heap.size → k ∉ L → w'.heap[k]? = w.heap[k]?

section
variable {w w' w1 w2 : World} {L L' : List Nat} {g : Nat} {t : TypeId} {cs : List Value}
theorem Only.refl (L : List Nat) (w : World) : Only L w w := ⟨rfl, rfl, rfl, Nat.le_refl _, fun _ _ _ => rfl⟩
theorem Only.trans (h : Only L w w1) (k : Only L' w1 w2) (hL : ∀ x ∈ L', x ∈ L ∨ w.heap.size ≤ x) : Only L w w2 :=
  ⟨k.os.trans h.os, k.tape.trans h.tape, k.output.trans h.output, Nat.le_trans h.size k.size, fun i hi hn =>
    (k.block i (Nat.lt_of_lt_of_le hi h.size) (fun hm => by
      rcases hL i hm with h1 | h1
      · exact hn h1
      · omega)).trans (h.block i hi hn)⟩
theorem Only.mono (h : Only L w w') (hL : ∀ x ∈ L, x ∈ L') : Only L' w w' := ⟨h.os, h.tape, h.output, h.size, fun i hi hn => h.block i hi (fun hm => hn (hL i hm))⟩
theorem Only.alloc (h : Only L w w') (o : Obj) : Only L w (w'.alloc o) :=
  ⟨h.os, h.tape, h.output, Nat.le_trans h.size (by simp), fun i hi hn => (Below.heap_alloc w' o i (Nat.lt_of_lt_of_le hi h.size)).trans (h.block i hi hn)⟩
theorem Only.drew (h : Only L w w') : Only L w w'.drew := ⟨h.os, h.tape, h.output, h.size, h.block⟩
theorem Only.drewN (h : Only L w w') (n : Nat) : Only L w (w'.drewN n) := ⟨h.os, h.tape, h.output, h.size, h.block⟩
theorem Only.setCell (h : Only L w w') {p : Addr} (hp : p.block ∈ L ∨ w.heap.size ≤ p.block) (u : Value) : Only L w (w'.setCell p u) :=
  ⟨h.os, h.tape, h.output, by simpa [World.setCell] using h.size, fun i hi hn => (Below.heap_setCell w' p u i (fun e => by
    subst e
    rcases hp with hp | hp
    · exact hn hp
    · omega)).trans (h.block i hi hn)⟩
theorem Only.below (h : Only L w w') {B : Nat} (hB : B ≤ w.heap.size) (hL : ∀ x ∈ L, B ≤ x) : Below B w w' :=
  ⟨h.os, h.tape, h.output, h.size, fun k hk => h.block k (by omega) (fun hm => by have := hL k hm; omega)⟩
theorem only_of_below (h : Below w.heap.size w w') : Only [] w w' := ⟨h.os, h.tape, h.output, h.size, fun i hi _ => h.block i hi⟩
theorem only_of_grown {row : Option Nat} (h : w.grownBy w' row) : Only row.toList w w' := ⟨h.os, h.tape, h.output, h.size, fun i hi hn => h.block i hi (fun e => hn (by simp [← e]))⟩

theorem Blk.lt (h : Blk w g t cs) : g < w.heap.size := by
  rcases Nat.lt_or_ge g w.heap.size with hlt | hge
  · exact hlt
  · unfold Blk at h; rw [Array.getElem?_eq_none hge] at h; cases h
theorem Blk.cell (h : Blk w g t cs) (i : Nat) : w.cell? ⟨g, i, none⟩ = cs[i]? := by
  have := cell_of_row w g i cs.toArray t (0, 0) h
  simpa using this
theorem Blk.frozen (h : Blk w g t cs) (i : Nat) : w.frozen? ⟨g, i, none⟩ = false := by
  unfold Blk at h
  simp [World.frozen?, h]
theorem Blk.new (w : World) (t : TypeId) (cs : List Value) : Blk (w.alloc (.cells cs.toArray t)) w.heap.size t cs := heap_alloc_new w _
theorem Blk.drew (h : Blk w g t cs) : Blk w.drew g t cs := h
theorem Blk.drewN (h : Blk w g t cs) (n : Nat) : Blk (w.drewN n) g t cs := h
theorem Blk.alloc (h : Blk w g t cs) (o : Obj) : Blk (w.alloc o) g t cs := (Below.heap_alloc w o g h.lt).trans h
theorem Blk.set_ (h : Blk w g t cs) (i : Nat) (u : Value) : Blk (w.setCell ⟨g, i, none⟩ u) g t (cs.set i u) := by
  unfold Blk at h ⊢
  simp [World.setCell, Array.getElem?_modify, h]
theorem Blk.far (h : Blk w g t cs) {p : Addr} (hp : g ≠ p.block) (u : Value) : Blk (w.setCell p u) g t cs := (Below.heap_setCell w p u g hp).trans h
theorem Blk.only (h : Blk w g t cs) (hb : Only L w w') (hg : g ∉ L) : Blk w' g t cs := (hb.block g h.lt hg).trans h
theorem Blk.below {B : Nat} (h : Blk w g t cs) (hb : Below B w w') (hg : g < B) : Blk w' g t cs := (hb.block g hg).trans h
theorem Blk.ne {g' : Nat} {t' : TypeId} {cs' : List Value} (h : Blk w g t cs) (h' : Blk w g' t' cs') (hne : t ≠ t') : g ≠ g' := by
  rintro rfl
  unfold Blk at h h'
  rw [h] at h'
  injection h' with h'
  injection h' with _ ht
  exact hne ht
theorem blk_setRow (h : Blk w g t cs) (ds : List Value) : Blk (w.setRow g ds.toArray) g t ds := setRow_heap w g _ _ t _ h
theorem only_setRow (w : World) (g : Nat) (ds : Array Value) : Only [g] w (w.setRow g ds) :=
  ⟨rfl, rfl, rfl, by simp [World.setRow], fun k _ hn => setRow_other w g k ds (by simpa using hn)⟩
end

/-- copy into a block that is known whole; only that block turns. -/
theorem wpList_copy_blk {P : Program} {w : World} {ops : Array Oper} {rest : List Oper} {o : Oper} {a : Act} {Q : Exit → Act → World → Prop} (hgd : o.guard = none) (d s : Operand) (dT sT : TypeId)
    (ho : o.op = .call { callee := .builtin .copy, args := #[d, s], argTypes := #[dT, sT] }) (elem : TypeId) (hu : P.underlying dT = some (.slice elem)) (hsz : (P.info? elem).map (·.size) = some 1)
    (dp sp : Option Addr) (dLen dCap sLen sCap : Nat) (hd : a.eval d = .slice dp dLen dCap) (hs : a.eval s = .slice sp sLen sCap)
    (g off : Nat) (cur : List Value) (t : TypeId) (hg : Blk w g t cur) (cs : List Value) (hn : cs.length = Nat.min sLen dLen)
    (hpos : 0 < cs.length → dp = some ⟨g, off, none⟩ ∧ ∃ ad, sp = some ad ∧ ∀ j v, cs[j]? = some v → w.cell? (ad.add j) = some v)
    (hfit : off + cs.length ≤ cur.length) (h1 : ∀ v ∈ cs, v.oneCell' = true)
    (h : ∀ w', Hid (Blk w' g t (splice cur off cs)) → Only [g] w w' → w'.heap.size = w.heap.size → wpList P ops Q rest (a.put o.dst (goInt cs.length)) w') :
    wpList P ops Q (o :: rest) a w := by
  by_cases h0 : cs.length = 0
  · obtain rfl : cs = [] := List.eq_nil_of_length_eq_zero h0
    refine wpList_copy_nothing hgd d s dT sT ho elem hu hsz dp sp dLen dCap sLen sCap hd hs (by simpa using hn.symm) ?_
    exact h w (show _ = _ by simpa [splice, Blk] using hg) (Only.refl _ _) rfl
  · obtain ⟨rfl, ad, rfl, hsrc⟩ := hpos (by omega)
    refine wpList_copy_own hgd d s dT sT ho elem hu hsz g off dLen dCap ad sLen sCap hd hs cur.toArray t hg cs hn hsrc (by simpa using hfit) h1 ?_
    exact h _ (show Blk _ g t _ by simpa [splice] using blk_setRow hg _) (only_setRow _ _ _) (by simp [World.setRow])

/-- The cells of a run of bytes. -/
def u8s (l : List Int) : List Value := l.map (.int .u8)
theorem length_u8s (l : List Int) : (u8s l).length = l.length := by simp [u8s]
theorem getElem?_u8s (l : List Int) (i : Nat) : (u8s l)[i]? = (l[i]?).map (.int .u8) := by simp [u8s]
theorem u8s_one (l : List Int) : ∀ v ∈ u8s l, v.oneCell' = true := by
  intro v hv; simp [u8s] at hv; obtain ⟨a, _, rfl⟩ := hv; rfl
theorem splice_u8s (l : List Int) (off : Nat) (m : List Int) : splice (u8s l) off (u8s m) = u8s (splice l off m) := by simp [splice, u8s]
end Go.Proofs.YtmmcamkmglpgiaaGreatDoor

namespace Go.Proofs.YtmmcamkmglpgiaaGreatDoor
set_option linter.all false
open Go.RowKit

/-- A slice of bytes that is read: what it reads as. -/
def Rd (w : World) (A : Option Addr) (l : List Int) : Prop :=
  0 < l.length → ∃ b off, A = some ⟨b, off, none⟩ ∧ b < w.heap.size ∧ ∀ i v, l[i]? = some v → w.cell? ⟨b, off + i, none⟩ = some (.int .u8 v)
theorem Rd.only {w w' : World} {A : Option Addr} {l : List Int} (h : Rd w A l) (hb : Only [] w w') : Rd w' A l := by
  intro h0
  obtain ⟨b, off, rfl, hlt, hc⟩ := h h0
  exact ⟨b, off, rfl, Nat.lt_of_lt_of_le hlt hb.size, fun i v hi => (World.cell?_of_block (w := w) (hb.block b hlt (by simp))).trans (hc i v hi)⟩

def eqB (l m : List Int) : Bool := decide (l = m)

end Go.Proofs.YtmmcamkmglpgiaaGreatDoor

namespace Go.Proofs.YtmmcamkmglpgiaaGreatDoor
set_option linter.all false
open Go.RowKit

theorem u8infos : (Tryz.prog.info? 5).map (fun i => (i.zero, i.size, i.bytes)) = some (some (.int .u8 0), 1, 1) := by kernel_rfl

/-- A slice of bytes of the call's own, in a block from base on: it reads as l. -/
def OwnB (w : World) (base : Nat) (v : Value) (l : List Int) : Prop := w.ownsRow base 5 1 v l.length (u8s l)
section
variable {w w' : World} {base : Nat} {v : Value} {l : List Int} {L : List Nat}
theorem ownB_nil (w : World) (base : Nat) : OwnB w base (.slice none 0 0) [] := World.ownsRow_nil w base _ _
theorem ownB_lit (w : World) (base : Nat) (l : List Int) (hb : base ≤ w.heap.size) (hl : l.length ≤ maxLen) : OwnB (w.alloc (.cells (u8s l).toArray 5)) base (.slice (some ⟨w.heap.size, 0, none⟩) l.length l.length) l := by
  have := World.ownsRow_lit (w := w) (base := base) (e := 5) (size := 1) (u8s l).toArray l.length hb hl (by simp [u8s])
  simpa [OwnB] using this
theorem ownB_blk {g : Nat} (h : Blk w g 5 (u8s l)) (hb : base ≤ g) (hl : l.length ≤ maxLen) : OwnB w base (.slice (some ⟨g, 0, none⟩) l.length l.length) l :=
  ⟨by simp [u8s], .inr ⟨g, l.length, (u8s l).toArray, rfl, hb, h, Nat.le_refl _, hl, by simp [u8s], by rw [List.take_of_length_le (by simp [u8s])]⟩⟩
theorem OwnB.mono {base' : Nat} (h : OwnB w base v l) (hb : base' ≤ base) : OwnB w base' v l := by
  refine ⟨h.1, ?_⟩
  rcases h.2 with h | ⟨g, cap, cur, e, hg, r⟩
  · exact .inl h
  · exact .inr ⟨g, cap, cur, e, by omega, r⟩
theorem OwnB.only (h : OwnB w base v l) (hb : Only L w w') (hL : ∀ x ∈ L, x < base) : OwnB w' base v l := by
  refine ⟨h.1, ?_⟩
  rcases h.2 with h | ⟨g, cap, cur, e, hg, hh, r⟩
  · exact .inl h
  · exact .inr ⟨g, cap, cur, e, hg, (hb.block g (Array.getElem?_eq_some_iff.1 hh).1 (fun hm => by have := hL g hm; omega)).trans hh, r⟩
theorem OwnB.far (h : OwnB w base v l) (hb : Only L w w') (hL : ∀ x ∈ L, some x ≠ v.ownBlock) : OwnB w' base v l := by
  refine ⟨h.1, ?_⟩
  rcases h.2 with h | ⟨g, cap, cur, e, hg, hh, r⟩
  · exact .inl h
  · exact .inr ⟨g, cap, cur, e, hg, (hb.block g (Array.getElem?_eq_some_iff.1 hh).1 (fun hm => hL g hm (by rw [e]; rfl))).trans hh, r⟩
theorem OwnB.block (h : OwnB w base v l) : ∀ k, v.ownBlock = some k → base ≤ k ∧ k < w.heap.size := World.ownsRow.lt h
/-- What it reads as, for whoever reads it. -/
theorem OwnB.rd (h : OwnB w base v l) : ∃ A cap, v = .slice A l.length cap ∧ Rd w A l ∧ l.length ≤ cap ∧ cap ≤ maxLen ∧ (∀ a, A = some a → base ≤ a.block) := by
  rcases h.2 with ⟨e, hn⟩ | ⟨g, cap, cur, e, hg, hh, hc, hm, hs, ht⟩
  · exact ⟨none, 0, by rw [e, hn], fun h0 => absurd h0 (by omega), by omega, by simp [maxLen], fun a ha => by cases ha⟩
  · refine ⟨some ⟨g, 0, none⟩, cap, e, fun _ => ⟨g, 0, rfl, (Array.getElem?_eq_some_iff.1 hh).1, fun i x hx => ?_⟩, hc, hm, fun a ha => by injection ha with ha; rw [← ha]; exact hg⟩
    subst e
    have := World.ownsRow.cells h (g := g) rfl i (.int .u8 x) (by rw [getElem?_u8s, hx]; rfl)
    simpa [Addr.add_lit] using this
end

/-- The cells that a slice of bytes reads as. -/
theorem Rd.news {w : World} {A : Option Addr} {l : List Int} (h : Rd w A l) (h0 : 0 < l.length) : ∃ ad, A = some ad ∧ ∀ j u, (u8s l)[j]? = some u → w.cell? (ad.add j) = some u := by
  obtain ⟨b, off, rfl, _, hc⟩ := h h0
  refine ⟨_, rfl, fun j u hu => ?_⟩
  rw [getElem?_u8s] at hu
  simp at hu
  obtain ⟨x, hx, rfl⟩ := hu
  have := hc j x hx
  simpa [Addr.add_lit] using this

/-- What append(s, x...) comes to, s of the call's own, x whatever reads as m. -/
theorem run_app {w : World} (ty : TypeId) (base : Nat) (v : Value) (l : List Int) (hown : OwnB w base v l) (A : Option Addr) (c : Nat) (m : List Int) (hr : Rd w A m)
    (hlen : l.length + m.length ≤ 140737488355328) (hbase : base ≤ w.heap.size) :
    ∃ v' w', (Builtin.append_ #[63, 63] ty #[v, .slice A m.length c]).run Tryz.prog w = .ok v' w' ∧ OwnB w' base v' (l ++ m) ∧ Only v.ownBlock.toList w w' ∧ (v' = .slice none 0 0 ↔ v = .slice none 0 0 ∧ m.length = 0) := by
  obtain ⟨i0, hi, hz0, hz1, hz2⟩ := info_parts u8infos
  have hu := Tryz.underlying63
  by_cases h0 : 0 < m.length
  · obtain ⟨ad, rfl, hn⟩ := hr.news h0
    obtain ⟨v', w', e, h1, h2, h3⟩ := run_append_own (P := Tryz.prog) w base 63 ty 5 i0 (.int .u8 0) 1 1 hu hi hz0 hz1 hz2 rfl (by decide) v l.length (u8s l) hown ad m.length c (u8s m) (by simp [u8s]) hn (u8s_one m) (by simp only [maxLen]; omega) (by omega) hbase
    exact ⟨v', w', e, by show World.ownsRow _ _ _ _ _ _ _; simpa [u8s] using h1, only_of_grown h2, h3⟩
  · have e0 : m = [] := List.eq_nil_of_length_eq_zero (by omega)
    subst e0
    refine ⟨v, w, ?_, by rw [List.append_nil]; exact hown, Only.refl _ _, by simp⟩
    have hf : ∀ w' : World, (Builtin.firstCells 1 0 (.slice A 0 c)).run Tryz.prog w' = .ok #[] w' := by
      intro w'
      cases A <;> simp [Builtin.firstCells, loadCells, loadCellsFrom]
    rcases hown.2 with ⟨rfl, hn⟩ | ⟨g, cap, cur, rfl, _, _, hnc, _⟩
    · cases A <;> simp [Builtin.append_, run_underlying hu, sizeOf, typeInfo, hi, hz1, Builtin.lenOf, hf]
    · cases A <;> simp [Builtin.append_, run_underlying hu, sizeOf, typeInfo, hi, hz1, Builtin.lenOf, hf, hnc, storeCells]

/-- append(s, x...), s of the call's own, x whatever reads as m. -/
theorem wpList_app {w : World} {ops : Array Oper} {rest : List Oper} {o : Oper} {a : Act} {Q : Exit → Act → World → Prop} (hgd : o.guard = none) (s x : Operand)
    (ho : o.op = .call { callee := .builtin .append, args := #[s, x], argTypes := #[63, 63] })
    (base : Nat) (v : Value) (l : List Int) (hs : a.eval s = v) (hown : OwnB w base v l) (A : Option Addr) (c : Nat) (m : List Int) (hx : a.eval x = .slice A m.length c) (hr : Rd w A m)
    (hlen : l.length + m.length ≤ 140737488355328) (hbase : base ≤ w.heap.size)
    (h : ∀ v' w', Hid (OwnB w' base v' (l ++ m)) → Only v.ownBlock.toList w w' → Hid (v' = .slice none 0 0 ↔ v = .slice none 0 0 ∧ m.length = 0) → wpList Tryz.prog ops Q rest (a.put o.dst v') w') : wpList Tryz.prog ops Q (o :: rest) a w := by
  refine wpList_plain hgd fun K hK => ?_
  obtain ⟨v', w', hrun, h1, h2, h3⟩ := run_app o.type base v l hown A c m hr hlen hbase
  unfold Oper.wp execOp
  simp only [ho, resolve, invoke, builtin, Sem.run_bind, Sem.run_pure, Result.andThen_ok, List.map_toArray, List.map_cons, List.map_nil, hs, hx, hrun]
  exact hK _ _ (h v' w' h1 h2 h3)
end Go.Proofs.YtmmcamkmglpgiaaGreatDoor

namespace Go.Proofs.YtmmcamkmglpgiaaGreatDoor
set_option linter.all false
open Go.RowKit

theorem run_app2 {w : World} (ty : TypeId) (base : Nat) (v : Value) (l : List Int) (hown : OwnB w base v l) (A : Option Addr) (c : Nat) (m : List Int) (hr : Rd w A m)
    (hlen : l.length + m.length ≤ 140737488355328) (hbase : base ≤ w.heap.size) :
    ∃ v' w', (Builtin.append_ #[63, 63] ty #[v, .slice A m.length c]).run Tryz.prog w = .ok v' w' ∧ OwnB w' base v' (l ++ m) ∧ Only v.ownBlock.toList w w' ∧ (v' = .slice none 0 0 ↔ v = .slice none 0 0 ∧ m.length = 0) ∧
      (v'.ownBlock = v.ownBlock ∨ v'.ownBlock = some w.heap.size) := by
  obtain ⟨v', w', e, h1, h2, h3⟩ := run_app ty base v l hown A c m hr hlen hbase
  refine ⟨v', w', e, h1, h2, h3, ?_⟩
  obtain ⟨i0, hi, hz0, hz1, hz2⟩ := info_parts u8infos
  have hu := Tryz.underlying63
  have hsm : ((u8s m).length = m.length * i0.size) := by rw [hz1]; simp [u8s]
  by_cases h0 : 0 < m.length
  · obtain ⟨ad, rfl, hn⟩ := hr.news h0
    rcases hown.2 with ⟨rfl, hn0⟩ | ⟨g, cap, cur, rfl, hg, hh, hc, hm, hs, ht⟩
    · have := run_append_nil (P := Tryz.prog) w 63 ty 5 i0 (.int .u8 0) hu hi hz0 ad m.length c (u8s m) hsm hn h0 (by omega) (by rw [hz2]; omega)
      rw [this] at e
      injection e with e1 e2
      right; rw [← e1]; rfl
    · by_cases hroom : l.length + m.length ≤ cap
      · obtain ⟨w2, e2, _⟩ := run_append_fits (P := Tryz.prog) w base 63 ty 5 i0 1 hu hi hz1 g l.length cap (u8s l) hown ad m.length c (u8s m) (by simp [u8s]) hn (u8s_one m) hroom
        rw [e2] at e
        injection e with e1 _
        left; rw [← e1]; rfl
      · have holds : ∀ j u, (u8s l)[j]? = some u → w.cell? ((⟨g, 0, none⟩ : Addr).add j) = some u := World.ownsRow.cells hown (g := g) rfl
        have := run_append_grow (P := Tryz.prog) w 63 ty 5 i0 (.int .u8 0) hu hi hz0 ⟨g, 0, none⟩ l.length cap (u8s l) (by rw [hz1]; simp [u8s]) holds ad m.length c (u8s m) hsm hn (by omega) (by omega) (growslice_fits (by omega) (by rw [hz2]; omega))
        rw [this] at e
        injection e with e1 _
        right; rw [← e1]; rfl
  · have e0 : m = [] := List.eq_nil_of_length_eq_zero (by omega)
    subst e0
    have hf : ∀ w' : World, (Builtin.firstCells 1 0 (.slice A 0 c)).run Tryz.prog w' = .ok #[] w' := by
      intro w'
      cases A <;> simp [Builtin.firstCells, loadCells, loadCellsFrom]
    have : (Builtin.append_ #[63, 63] ty #[v, .slice A 0 c]).run Tryz.prog w = .ok v w := by
      rcases hown.2 with ⟨rfl, hn⟩ | ⟨g, cap, cur, rfl, _, _, hnc, _⟩
      · cases A <;> simp [Builtin.append_, run_underlying hu, sizeOf, typeInfo, hi, hz1, Builtin.lenOf, hf]
      · cases A <;> simp [Builtin.append_, run_underlying hu, sizeOf, typeInfo, hi, hz1, Builtin.lenOf, hf, hnc, storeCells]
    rw [show ([] : List Int).length = 0 from rfl, this] at e
    injection e with e1 _
    left; rw [e1]

/-- append(s, x...), s of the call's own, x whatever reads as m. -/
theorem wpList_app2 {w : World} {ops : Array Oper} {rest : List Oper} {o : Oper} {a : Act} {Q : Exit → Act → World → Prop} (hgd : o.guard = none) (s x : Operand)
    (ho : o.op = .call { callee := .builtin .append, args := #[s, x], argTypes := #[63, 63] })
    (base : Nat) (v : Value) (l : List Int) (hs : a.eval s = v) (hown : OwnB w base v l) (A : Option Addr) (c : Nat) (m : List Int) (hx : a.eval x = .slice A m.length c) (hr : Rd w A m)
    (hlen : l.length + m.length ≤ 140737488355328) (hbase : base ≤ w.heap.size)
    (h : ∀ v' w', Hid (OwnB w' base v' (l ++ m)) → Only v.ownBlock.toList w w' → Hid (v'.ownBlock = v.ownBlock ∨ v'.ownBlock = some w.heap.size) → wpList Tryz.prog ops Q rest (a.put o.dst v') w') : wpList Tryz.prog ops Q (o :: rest) a w := by
  refine wpList_plain hgd fun K hK => ?_
  obtain ⟨v', w', hrun, h1, h2, _, h3⟩ := run_app2 o.type base v l hown A c m hr hlen hbase
  unfold Oper.wp execOp
  simp only [ho, resolve, invoke, builtin, Sem.run_bind, Sem.run_pure, Result.andThen_ok, List.map_toArray, List.map_cons, List.map_nil, hs, hx, hrun]
  exact hK _ _ (h v' w' h1 h2 h3)
end Go.Proofs.YtmmcamkmglpgiaaGreatDoor

namespace Go.Proofs.YtmmcamkmglpgiaaGreatDoor
set_option linter.all false
open Go.RowKit

theorem OwnB.form {w : World} {base : Nat} {v : Value} {l : List Int} (h : OwnB w base v l) (h0 : 0 < l.length) : ∃ g cap, v = .slice (some ⟨g, 0, none⟩) l.length cap ∧ base ≤ g ∧ g < w.heap.size := by
  rcases h.2 with ⟨_, hn⟩ | ⟨g, cap, cur, e, hg, hh, _⟩
  · omega
  · exact ⟨g, cap, e, hg, (Array.getElem?_eq_some_iff.1 hh).1⟩

def Where (v : Value) (g H : Nat) : Prop := v.ownBlock = some g ∨ g = H
theorem step_app {w : World} {ops : Array Oper} {o : Oper} {a : Act} {K : Act → World → Prop} {Q : Exit → Act → World → Prop} {E : Prop} (hgd : o.guard = none) (s x : Operand)
    (ho : o.op = .call { callee := .builtin .append, args := #[s, x], argTypes := #[63, 63] })
    (base : Nat) (v : Value) (l : List Int) (hs : a.eval s = v) (hown : OwnB w base v l) (A : Option Addr) (c : Nat) (m : List Int) (k : Nat) (hk : m.length = k) (hx : a.eval x = .slice A k c) (hr : Rd w A m) (h0 : 0 < k)
    (hlen : l.length + m.length ≤ 140737488355328) (hbase : base ≤ w.heap.size)
    (h : ∀ g cap w', Hid (OwnB w' base (.slice (some ⟨g, 0, none⟩) (l.length + k) cap) (l ++ m)) → Only v.ownBlock.toList w w' → Hid (Where v g w.heap.size) → K (a.put o.dst (.slice (some ⟨g, 0, none⟩) (l.length + k) cap)) w') :
    if Region.wanted o (yielded ops a.tmps) = true then Oper.wp Tryz.prog o a w K Q else E := by
  have hw : Region.wanted o (yielded ops a.tmps) = true := by simp [Region.wanted, hgd]
  rw [if_pos hw]
  subst hk
  obtain ⟨v', w', hrun, h1, h2, _, h3⟩ := run_app2 o.type base v l hown A c m hr hlen hbase
  obtain ⟨g, cap, rfl, hg, hgl⟩ := h1.form (by simp; omega)
  unfold Oper.wp execOp
  simp only [ho, resolve, invoke, builtin, Sem.run_bind, Sem.run_pure, Result.andThen_ok, List.map_toArray, List.map_cons, List.map_nil, hs, hx, hrun]
  have hh := h g cap w' (by rw [← List.length_append]; exact h1) h2 (by
    show Where v g w.heap.size
    rcases h3 with h3 | h3
    · left; rw [← h3]; rfl
    · right; simpa [Value.ownBlock] using h3)
  rw [← List.length_append] at hh
  exact hh

theorem wpList_app3 {w : World} {ops : Array Oper} {rest : List Oper} {o : Oper} {a : Act} {Q : Exit → Act → World → Prop} (hgd : o.guard = none) (s x : Operand)
    (ho : o.op = .call { callee := .builtin .append, args := #[s, x], argTypes := #[63, 63] })
    (base : Nat) (v : Value) (l : List Int) (hs : a.eval s = v) (hown : OwnB w base v l) (A : Option Addr) (c : Nat) (m : List Int) (k : Nat) (hk : m.length = k) (hx : a.eval x = .slice A k c) (hr : Rd w A m)
    (hlen : l.length + m.length ≤ 140737488355328) (hbase : base ≤ w.heap.size)
    (h : ∀ v' w', Hid (OwnB w' base v' (l ++ m)) → Only v.ownBlock.toList w w' → Hid (v'.ownBlock = v.ownBlock ∨ v'.ownBlock = some w.heap.size) → wpList Tryz.prog ops Q rest (a.put o.dst v') w') : wpList Tryz.prog ops Q (o :: rest) a w := by
  subst hk
  exact wpList_app2 hgd s x ho base v l hs hown A c m hx hr hlen hbase h

theorem rd_one (w : World) (x : Int) : Rd (w.alloc (.cells #[.int .u8 x] 5)) (some ⟨w.heap.size, 0, none⟩) [x] := fun _ => ⟨w.heap.size, 0, rfl, by simp, fun i v hi => by
  match i, hi with
  | 0, hi => simp at hi; subst hi; simp [World.cell?_alloc_mark]⟩

def Where2 (v v' : Value) (H : Nat) : Prop := v'.ownBlock = v.ownBlock ∨ v'.ownBlock = some H
/-- append(s, x...) as one step, whatever x's length. -/
theorem step_app0 {w : World} {ops : Array Oper} {o : Oper} {a : Act} {K : Act → World → Prop} {Q : Exit → Act → World → Prop} {E : Prop} (hgd : o.guard = none) (s x : Operand)
    (ho : o.op = .call { callee := .builtin .append, args := #[s, x], argTypes := #[63, 63] })
    (base : Nat) (v : Value) (l : List Int) (hs : a.eval s = v) (hown : OwnB w base v l) (A : Option Addr) (c : Nat) (m : List Int) (k : Nat) (hk : m.length = k) (hx : a.eval x = .slice A k c) (hr : Rd w A m)
    (hlen : l.length + m.length ≤ 140737488355328) (hbase : base ≤ w.heap.size)
    (h : ∀ A' cap w', Hid (OwnB w' base (.slice A' (l.length + k) cap) (l ++ m)) → Only v.ownBlock.toList w w' → Hid (Where2 v (.slice A' (l.length + k) cap) w.heap.size) → K (a.put o.dst (.slice A' (l.length + k) cap)) w') :
    if Region.wanted o (yielded ops a.tmps) = true then Oper.wp Tryz.prog o a w K Q else E := by
  have hw : Region.wanted o (yielded ops a.tmps) = true := by simp [Region.wanted, hgd]
  rw [if_pos hw]
  subst hk
  obtain ⟨v', w', hrun, h1, h2, _, h3⟩ := run_app2 o.type base v l hown A c m hr hlen hbase
  obtain ⟨A', cap, rfl, _⟩ := h1.rd
  unfold Oper.wp execOp
  simp only [ho, resolve, invoke, builtin, Sem.run_bind, Sem.run_pure, Result.andThen_ok, List.map_toArray, List.map_cons, List.map_nil, hs, hx, hrun]
  rw [List.length_append] at h1 h3 ⊢
  exact h A' cap w' h1 h2 h3
end Go.Proofs.YtmmcamkmglpgiaaGreatDoor
