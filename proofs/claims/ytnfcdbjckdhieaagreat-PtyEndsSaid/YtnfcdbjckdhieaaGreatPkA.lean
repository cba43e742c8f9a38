/- Small lemmas for walks, over any program; no condition · The frame of a law: if the call returns true and leaves all memory that was there as it was, then the law's row holds, whatever its arguments; no condition · Small laws on memory: a block known whole, which old blocks may have turned, copy between blocks; over any program, no condition · The walk of the reference's Bytes: whether two slices of bytes read alike; for all slices, no condition · Slices of bytes that a call has made itself: what they read as; append to them; over the program's own type of bytes, no condition · append to a slice of bytes of the call's own, and where the new slice lies; no condition · append to a slice of bytes of the call's own, as one step of a region that draws its order; no condition · Slices whose elements take one cell, read; over any program, no condition · Slices of a call's own of any element, appended to; over any program; no condition but the sizes · Bounds; no condition · Arguments opened, down to their cells: structs in structs, texts, flags, slices of structs. Over any program; no condition · The frame of a law: if the call returns true and leaves all memory that was there as it was, then the law's row holds; the walk is told the reach; no condition. A slice within a struct, opened · Arguments opened with what each of their slices weighs: structs in structs, arrays, slices in slices. Over any program; no condition · A region that draws its order: some operations that yield in whatever world have been taken; the rest are heads (they change no world) and a chain that waits for every head: it is enough to go through the heads in one order, then through the chain. Over any program; no condition · A region that draws its order, next to a fact on the world that holds until the region's last part begins: whatever yields one value in all worlds with that fact may be taken first. Over any program; no condition · A region that draws its order: where just one operation may come, it is taken, and the fact goes on behind it. Over any program; no condition. -/
import Derived.WalkKit
import Derived.Below
import Derived.Handy
import Derived.Outline
import Derived.WalkLawsBesides
import Derived.WalkSpells
import Derived.BigQuiet
import Derived.Deep.QuietTactic
import Derived.Deep.RegionHeld3
import Derived.Lib.Hide
import Derived.ProofKit
import Derived.OpenShut
import Derived.Lib.SmallJoins
import Derived.Test.YtnfcdbjckdhieaaGreatRows
import Derived.ChangeOld
import Derived.Laws.CopyOwn
import Derived.Laws.Rows
import Derived.Laws.OwnMore
import Derived.Laws.AppendOwn
import Derived.StillTailTactics
import Derived.Deep.AppendLies
import Derived.Laws.AppendOwnNone
import Derived.Deep.RegionLaw
import Derived.Deep.Fields
import Derived.Deep.Slices
import Derived.SizedLaws
import Derived.Deep.Strs
namespace Go.Proofs.YtnfcdbjckdhieaaGreat
set_option linter.all false
open Go.RowKit

theorem bcell {W w1 : World} (hb : Below W.heap.size W w1) : (∀ b o, b < W.heap.size → w1.cell? ⟨b, o, none⟩ = W.cell? ⟨b, o, none⟩) ∧ (∀ b o, b < W.heap.size → w1.frozen? ⟨b, o, none⟩ = W.frozen? ⟨b, o, none⟩) :=
  ⟨fun b o h => hb.cell (p := ⟨b, o, none⟩) h, fun b o h => hb.frozen (p := ⟨b, o, none⟩) h⟩

theorem cellv {B : Nat} {W w1 : World} (hb : Below B W w1) {b o : Nat} {v : Value} (h : b < B) (hc : W.cell? ⟨b, o, none⟩ = some v) : w1.cell? ⟨b, o, none⟩ = some v := (hb.cell (p := ⟨b, o, none⟩) h).trans hc
theorem frozenv {B : Nat} {W w1 : World} (hb : Below B W w1) {b o : Nat} {c : Bool} (h : b < B) (hc : W.frozen? ⟨b, o, none⟩ = c) : w1.frozen? ⟨b, o, none⟩ = c := (hb.frozen (p := ⟨b, o, none⟩) h).trans hc

theorem ret_int {k : IntKind} {a b : Int} (h : a = b) : Ending.returned (.int k a) = .returned (.int k b) := by rw [h]
theorem ret_bool {a b : Bool} (h : a = b) : Ending.returned (.bool a) = .returned (.bool b) := by rw [h]

theorem wf_u32 {n : Int} (h : (Lit.int .u32 n).wf = true) : 0 ≤ n ∧ n ≤ 4294967295 := by
  simp [Lit.wf, IntKind.min, IntKind.max, IntKind.bits, IntKind.signed] at h; omega
theorem wf_i64 {n : Int} (h : (Lit.int .i64 n).wf = true) : -9223372036854775808 ≤ n ∧ n ≤ 9223372036854775807 := by
  simp [Lit.wf, IntKind.min, IntKind.max, IntKind.bits, IntKind.signed] at h; omega
theorem wf_i32 {n : Int} (h : (Lit.int .i32 n).wf = true) : -2147483648 ≤ n ∧ n ≤ 2147483647 := by
  simp [Lit.wf, IntKind.min, IntKind.max, IntKind.bits, IntKind.signed] at h; omega
theorem wf_u16 {n : Int} (h : (Lit.int .u16 n).wf = true) : 0 ≤ n ∧ n ≤ 65535 := by
  simp [Lit.wf, IntKind.min, IntKind.max, IntKind.bits, IntKind.signed] at h; omega
theorem wf_u8 {n : Int} (h : (Lit.int .u8 n).wf = true) : 0 ≤ n ∧ n ≤ 255 := by
  simp [Lit.wf, IntKind.min, IntKind.max, IntKind.bits, IntKind.signed] at h; omega
theorem hide {p : Prop} (h : p) : Hid p := h
theorem unhide {p : Prop} (h : Hid p) : p := h

/-- A slice of integers that came in: its elements. -/
def Ints (k : IntKind) (w : World) (A : Option Addr) (len : Nat) (zs : List Int) : Prop :=
  zs.length = len ∧ len ≤ maxLen ∧ (∀ n ∈ zs, (Lit.int k n).wf = true) ∧
    (0 < len → ∃ b off, A = some ⟨b, off, none⟩ ∧ b < w.heap.size ∧ ∀ i, i < len → w.cell? ⟨b, off + i, none⟩ = some (.int k (zs.getD i 0)))

theorem Ints.below {k : IntKind} {w w' : World} {A : Option Addr} {len B : Nat} {zs : List Int} (h : Ints k w A len zs) (hb : Below B w w') (hB : w.heap.size ≤ B) : Ints k w' A len zs := by
  obtain ⟨h1, h2, h3, h4⟩ := h
  refine ⟨h1, h2, h3, fun hl => ?_⟩
  obtain ⟨b, off, rfl, hlt, hc⟩ := h4 hl
  exact ⟨b, off, rfl, Nat.lt_of_lt_of_le hlt hb.size, fun i hi => cellv hb (by omega) (hc i hi)⟩

theorem Ints.wf {k : IntKind} {w : World} {A : Option Addr} {len : Nat} {zs : List Int} (h : Ints k w A len zs) (i : Nat) (hi : i < len) : (Lit.int k (zs.getD i 0)).wf = true := by
  obtain ⟨h1, h2, h3, h4⟩ := h
  refine h3 _ ?_
  rw [List.getD_eq_getElem?_getD, List.getElem?_eq_getElem (by omega)]
  simp

theorem ints_open {H : Type} {enc : TypeId × Value → H} {P : Program} {w : World} {base base' : Nat} {spare : Nat → Bool} {held : Bool} {r : Reach} {t e : TypeId} {k : IntKind} {v : Value} {d : DataW H} {p : List MemPlace}
    (ht : P.underlying t = some (.slice e)) (he : P.underlying e = some (.int k)) (hc : P.cellsOf e = 1) (hv : Value.okWide P w r base' t v) (h : DataW.Trod enc P w base spare held t v d p) :
    ∃ A len cap zs, v = .slice A len cap ∧ len ≤ cap ∧ cap ≤ maxLen ∧ Ints k w A len zs := by
  obtain ⟨a0, len, cap, rfl⟩ := Go.WideShapes.okWide_slice ht hv
  obtain ⟨fuel, hf⟩ := h
  rcases Go.ChangeShapes.open_ints ht he hc hf with ⟨hcs, _⟩ | ⟨a, l, c, zs, hcs, _, hl, hm, hz, _, hcell, hwz⟩
  · simp [Value.cells] at hcs
    obtain ⟨rfl, rfl, rfl⟩ := hcs
    exact ⟨none, 0, 0, [], rfl, Nat.le_refl _, Nat.zero_le _, rfl, Nat.zero_le _, by simp, by simp⟩
  · simp [Value.cells] at hcs
    obtain ⟨rfl, rfl, rfl⟩ := hcs
    have hlz : len ≤ zs.length := by split at hz <;> omega
    refine ⟨some a, len, cap, zs.take len, rfl, hl, hm, by simp; omega, by omega, fun n hn => hwz n (List.mem_of_mem_take hn), fun h0 => ?_⟩
    obtain ⟨b, off, rfl, hc'⟩ := ints_at hcell (by omega)
    refine ⟨b, off, rfl, World.block_lt_of_cell? w _ (hc' 0 (by omega)), fun i hi => ?_⟩
    rw [hc' i (by omega)]
    simp [List.getD_eq_getElem?_getD, List.getElem?_take, hi]
end Go.Proofs.YtnfcdbjckdhieaaGreat

namespace Go.Proofs.YtnfcdbjckdhieaaGreat
set_option linter.all false
open Go.ChangeShapes Go.WideShapes Go.ChangeAt Go.RowKit

noncomputable def readsAll (P : Program) (ts : List TypeId) : Bool := ts.all fun t => P.readableRec t && decide (t < P.types.size)

section
variable {H : Type} {enc : TypeId × Value → H} {P : Program}
theorem trodAll_len {w : World} {base : Nat} {spare : Nat → Bool} {held : Bool} : ∀ (ts : List TypeId) (vs : List Value) (ds : List (DataW H)) (ps : List MemPlace), DataW.TrodAll enc P w base spare held ts vs ds ps → ds.length = ts.length := by
  intro ts
  induction ts with
  | nil =>
    intro vs ds ps h
    obtain ⟨rfl, rfl, rfl⟩ := trodAll_nil h
    rfl
  | cons t ts ih =>
    intro vs ds ps h
    obtain ⟨v, vs', d, ds', a, b, rfl, rfl, rfl, h1, h2⟩ := trodAll_cons h
    simp [ih _ _ _ h2]
theorem trodAll_stays (laidOut : laidOutB P = true) {W W' : World} (hb : Below W.heap.size W W') : ∀ (ts : List TypeId) (vs : List Value) (ds : List (DataW H)) (ps : List MemPlace), readsAll P ts = true →
    DataW.TrodAll enc P W 0 (fun _ => true) true ts vs ds ps → (∀ x ∈ ps, x.block < W.heap.size) → DataW.TrodAll enc P W' 0 (fun b => decide (b < W.heap.size)) true ts vs ds ps := by
  intro ts
  induction ts with
  | nil =>
    intro vs ds ps _ h _
    obtain ⟨rfl, rfl, rfl⟩ := trodAll_nil h
    exact trodAll_mk0
  | cons t ts ih =>
    intro vs ds ps hr h hlt
    obtain ⟨v, vs', d, ds', a, b, rfl, rfl, rfl, h1, h2⟩ := trodAll_cons h
    simp only [readsAll, List.all_cons, Bool.and_eq_true, decide_eq_true_eq] at hr
    exact trodAll_cons_mk (Below.trod laidOut hr.1.1 hr.1.2 h1 hb (fun x hx => hlt x (List.mem_append_left _ hx))) (ih _ _ _ (by simpa only [readsAll, List.all_eq_true, Bool.and_eq_true, decide_eq_true_eq] using hr.2) h2 (fun x hx => hlt x (List.mem_append_right _ hx)))
end

/-- What the walk of a law is handed: the arguments read as data. -/
def LawWalk (P : Program) (f : FuncId) (fn : Func) : Prop :=
  ∀ (H : Type) (enc : TypeId × Value → H) (W : World) (base : Nat) (args : Array Value) (ds : List (DataW H)) (ps : List MemPlace),
    (∀ (j : Nat) t v, fn.params[j]? = some t → args[j]? = some v → Value.okWide P W .any base t v) →
    DataW.TrodAll enc P W 0 (fun _ => true) true fn.params.toList args.toList ds ps →
    Calls P f args W fun e W' => e = .returned (.bool true) ∧ Below W.heap.size W W'

theorem law_lifted {C : Checked} {tb : TypeId} (own : ownKnob C.prog.godebug = none) (laidOut : laidOutB C.prog = true) (hb : C.prog.underlying tb = some .bool) (f : FuncId) (fn : Func) (s : ChangeSpec)
    (hfn : C.prog.funcs[f]? = some fn) (noInit : C.prog.inits.idxOf? f = none) (hres : fn.resultTypes = #[tb])
    (hread : readsAll C.prog fn.params.toList = true) (hv : s.vars = [])
    (hs : ∀ (H : Type) (ds : List (DataW H)), ds.length = fn.params.size → s.fn H ds = { results := [.lit (.bool true)], args := ds })
    (walk : LawWalk C.prog f fn) (os : Os) (started : os.Started) (H : Type) (enc : TypeId × Value → H)
    (witness : ∃ (w : World) (tape : Tape) (i : Input), w.os = os ∧ (w.forCall tape i).Shaped C.prog ∧ i.vars = [] ∧ Input.okWide C.prog (w.forCall tape i) .any w.heap.size f i ∧
      s.pre6 enc C.prog fn [] false (w.forCall tape i).memory i.args ∧ Assume.holds {} C.prog (lone (Frame.enter C.prog f i.args .normal) [] (w.forCall tape i))) :
    ReturnsInHanded {} C os f .any (s.pre6 enc C.prog fn [] false) (s.post enc C.prog fn false true false false) := by
  refine returnsInHanded_of_change own started noInit hfn witness ?_
  intro W base args ds gs before hval hW hcnd _
  have hW' := hW
  obtain ⟨p, q, hA, hV, rfl, hfz, hnd⟩ := hW
  rw [hv] at hV
  obtain ⟨rfl, rfl⟩ := trodVars_none hV
  have hlt := DataW.TrodAll.lt hA
  have hlen : ds.length = fn.params.size := by have := trodAll_len _ _ _ _ hA; simpa using this
  have hfnc := hs H ds hlen
  refine (walk H enc W base args ds p hval hA).mono fun e W' ⟨he, bel⟩ => ?_
  subst he
  refine ⟨_, rfl, ds, [], p ++ [], [], p, [], hW', ?_, ?_, ?_, bel.frame _, fun h => by cases h⟩
  · rw [hres, List.append_nil, hfnc]
    exact trodAll_mk1 (shut_bool hb _)
  · rw [List.append_nil, hfnc]
    exact trodAll_stays laidOut bel _ _ _ _ hread hA hlt
  · rw [hv, List.append_nil, hfnc]
    rfl

theorem own : ownKnob Tryz.prog.godebug = none := by kernel_rfl
theorem laidOut : laidOutB Tryz.prog = true := by kernel_rfl
end Go.Proofs.YtnfcdbjckdhieaaGreat

namespace Go.Proofs.YtnfcdbjckdhieaaGreat
set_option linter.all false
open Go.RowKit

/-- Block g is just the cells cs of element type t, none frozen. -/
def Blk (w : World) (g : Nat) (t : TypeId) (cs : List Value) : Prop := w.heap[g]? = some (.cells cs.toArray t (0, 0))
/-- Of the blocks of w only those of L have turned; there may be new ones. -/
structure Only (L : List Nat) (w w' : World) : Prop where
  os : w'.os = w.os
  tape : w'.tape = w.tape
  output : w'.output = w.output
  size : w.heap.size ≤ w'.heap.size
  block : ∀ k, k < w.heap.size → k ∉ L → w'.heap[k]? = w.heap[k]?

section
variable {w w' w1 w2 : World} {L L' : List Nat} {g : Nat} {t : TypeId} {cs : List Value}
theorem Only.refl (L : List Nat) (w : World) : Only L w w := ⟨rfl, rfl, rfl, Nat.le_refl _, fun _ _ _ => rfl⟩
theorem Only.trans (h : Only L w w1) (k : Only L' w1 w2) (hL : ∀ x ∈ L', x ∈ L ∨ w.heap.size ≤ x) : Only L w w2 :=
  ⟨k.os.trans h.os, k.tape.trans h.tape, k.output.trans h.output, Nat.le_trans h.size k.size, fun i hi hn =>
    (k.block i (Nat.lt_of_lt_of_le hi h.size) (fun hm => by
      rcases hL i hm with h1 | h1
      · exact hn h1
      · omega)).trans (h.block i hi hn)⟩
theorem Only.mono (h : Only L w w') (hL : ∀ x ∈ L, x ∈ L') : Only L' w w' := ⟨h.os, h.tape, h.output, h.size, fun i hi hn => h.block i hi (fun hm => hn (hL i hm))⟩
theorem Only.alloc (h : Only L w w') (o : Obj) : Only L w (w'.alloc o) :=
  ⟨h.os, h.tape, h.output, Nat.le_trans h.size (by simp), fun i hi hn => (Below.heap_alloc w' o i (Nat.lt_of_lt_of_le hi h.size)).trans (h.block i hi hn)⟩
theorem Only.drew (h : Only L w w') : Only L w w'.drew := ⟨h.os, h.tape, h.output, h.size, h.block⟩
theorem Only.drewN (h : Only L w w') (n : Nat) : Only L w (w'.drewN n) := ⟨h.os, h.tape, h.output, h.size, h.block⟩
theorem Only.setCell (h : Only L w w') {p : Addr} (hp : p.block ∈ L ∨ w.heap.size ≤ p.block) (u : Value) : Only L w (w'.setCell p u) :=
  ⟨h.os, h.tape, h.output, by simpa [World.setCell] using h.size, fun i hi hn => (Below.heap_setCell w' p u i (fun e => by
    subst e
    rcases hp with hp | hp
    · exact hn hp
    · omega)).trans (h.block i hi hn)⟩
theorem Only.below (h : Only L w w') {B : Nat} (hB : B ≤ w.heap.size) (hL : ∀ x ∈ L, B ≤ x) : Below B w w' :=
  ⟨h.os, h.tape, h.output, h.size, fun k hk => h.block k (by omega) (fun hm => by have := hL k hm; omega)⟩
theorem only_of_below (h : Below w.heap.size w w') : Only [] w w' := ⟨h.os, h.tape, h.output, h.size, fun i hi _ => h.block i hi⟩
theorem only_of_grown {row : Option Nat} (h : w.grownBy w' row) : Only row.toList w w' := ⟨h.os, h.tape, h.output, h.size, fun i hi hn => h.block i hi (fun e => hn (by simp [← e]))⟩

theorem Blk.lt (h : Blk w g t cs) : g < w.heap.size := by
  rcases Nat.lt_or_ge g w.heap.size with hlt | hge
  · exact hlt
  · unfold Blk at h; rw [Array.getElem?_eq_none hge] at h; cases h
theorem Blk.cell (h : Blk w g t cs) (i : Nat) : w.cell? ⟨g, i, none⟩ = cs[i]? := by
  have := cell_of_row w g i cs.toArray t (0, 0) h
  simpa using this
theorem Blk.frozen (h : Blk w g t cs) (i : Nat) : w.frozen? ⟨g, i, none⟩ = false := by
  unfold Blk at h
  simp [World.frozen?, h]
theorem Blk.new (w : World) (t : TypeId) (cs : List Value) : Blk (w.alloc (.cells cs.toArray t)) w.heap.size t cs := heap_alloc_new w _
theorem Blk.drew (h : Blk w g t cs) : Blk w.drew g t cs := h
theorem Blk.drewN (h : Blk w g t cs) (n : Nat) : Blk (w.drewN n) g t cs := h
theorem Blk.alloc (h : Blk w g t cs) (o : Obj) : Blk (w.alloc o) g t cs := (Below.heap_alloc w o g h.lt).trans h
theorem Blk.set_ (h : Blk w g t cs) (i : Nat) (u : Value) : Blk (w.setCell ⟨g, i, none⟩ u) g t (cs.set i u) := by
  unfold Blk at h ⊢
  simp [World.setCell, Array.getElem?_modify, h]
theorem Blk.far (h : Blk w g t cs) {p : Addr} (hp : g ≠ p.block) (u : Value) : Blk (w.setCell p u) g t cs := (Below.heap_setCell w p u g hp).trans h
theorem Blk.only (h : Blk w g t cs) (hb : Only L w w') (hg : g ∉ L) : Blk w' g t cs := (hb.block g h.lt hg).trans h
theorem Blk.below {B : Nat} (h : Blk w g t cs) (hb : Below B w w') (hg : g < B) : Blk w' g t cs := (hb.block g hg).trans h
theorem Blk.ne {g' : Nat} {t' : TypeId} {cs' : List Value} (h : Blk w g t cs) (h' : Blk w g' t' cs') (hne : t ≠ t') : g ≠ g' := by
  rintro rfl
  unfold Blk at h h'
  rw [h] at h'
  injection h' with h'
  injection h' with _ ht
  exact hne ht
theorem blk_setRow (h : Blk w g t cs) (ds : List Value) : Blk (w.setRow g ds.toArray) g t ds := setRow_heap w g _ _ t _ h
theorem only_setRow (w : World) (g : Nat) (ds : Array Value) : Only [g] w (w.setRow g ds) :=
  ⟨rfl, rfl, rfl, by simp [World.setRow], fun k _ hn => setRow_other w g k ds (by simpa using hn)⟩
end

/-- copy into a block that is known whole; only that block turns. -/
theorem wpList_copy_blk {P : Program} {w : World} {ops : Array Oper} {rest : List Oper} {o : Oper} {a : Act} {Q : Exit → Act → World → Prop} (hgd : o.guard = none) (d s : Operand) (dT sT : TypeId)
    (ho : o.op = .call { callee := .builtin .copy, args := #[d, s], argTypes := #[dT, sT] }) (elem : TypeId) (hu : P.underlying dT = some (.slice elem)) (hsz : (P.info? elem).map (·.size) = some 1)
    (dp sp : Option Addr) (dLen dCap sLen sCap : Nat) (hd : a.eval d = .slice dp dLen dCap) (hs : a.eval s = .slice sp sLen sCap)
    (g off : Nat) (cur : List Value) (t : TypeId) (hg : Blk w g t cur) (cs : List Value) (hn : cs.length = Nat.min sLen dLen)
    (hpos : 0 < cs.length → dp = some ⟨g, off, none⟩ ∧ ∃ ad, sp = some ad ∧ ∀ j v, cs[j]? = some v → w.cell? (ad.add j) = some v)
    (hfit : off + cs.length ≤ cur.length) (h1 : ∀ v ∈ cs, v.oneCell' = true)
    (h : ∀ w', Hid (Blk w' g t (splice cur off cs)) → Only [g] w w' → w'.heap.size = w.heap.size → wpList P ops Q rest (a.put o.dst (goInt cs.length)) w') :
    wpList P ops Q (o :: rest) a w := by
  by_cases h0 : cs.length = 0
  · obtain rfl : cs = [] := List.eq_nil_of_length_eq_zero h0
    refine wpList_copy_nothing hgd d s dT sT ho elem hu hsz dp sp dLen dCap sLen sCap hd hs (by simpa using hn.symm) ?_
    exact h w (show _ = _ by simpa [splice, Blk] using hg) (Only.refl _ _) rfl
  · obtain ⟨rfl, ad, rfl, hsrc⟩ := hpos (by omega)
    refine wpList_copy_own hgd d s dT sT ho elem hu hsz g off dLen dCap ad sLen sCap hd hs cur.toArray t hg cs hn hsrc (by simpa using hfit) h1 ?_
    exact h _ (show Blk _ g t _ by simpa [splice] using blk_setRow hg _) (only_setRow _ _ _) (by simp [World.setRow])

/-- The cells of a run of bytes. -/
def u8s (l : List Int) : List Value := l.map (.int .u8)
theorem length_u8s (l : List Int) : (u8s l).length = l.length := by simp [u8s]
theorem getElem?_u8s (l : List Int) (i : Nat) : (u8s l)[i]? = (l[i]?).map (.int .u8) := by simp [u8s]
theorem u8s_one (l : List Int) : ∀ v ∈ u8s l, v.oneCell' = true := by
  intro v hv; simp [u8s] at hv; obtain ⟨a, _, rfl⟩ := hv; rfl
theorem splice_u8s (l : List Int) (off : Nat) (m : List Int) : splice (u8s l) off (u8s m) = u8s (splice l off m) := by simp [splice, u8s]
end Go.Proofs.YtnfcdbjckdhieaaGreat

namespace Go.Proofs.YtnfcdbjckdhieaaGreat
set_option linter.all false
open Go.RowKit

/-- A slice of bytes that is read: what it reads as. -/
def Rd (w : World) (A : Option Addr) (l : List Int) : Prop :=
  0 < l.length → ∃ b off, A = some ⟨b, off, none⟩ ∧ b < w.heap.size ∧ ∀ i v, l[i]? = some v → w.cell? ⟨b, off + i, none⟩ = some (.int .u8 v)
theorem Rd.only {w w' : World} {A : Option Addr} {l : List Int} (h : Rd w A l) (hb : Only [] w w') : Rd w' A l := by
  intro h0
  obtain ⟨b, off, rfl, hlt, hc⟩ := h h0
  exact ⟨b, off, rfl, Nat.lt_of_lt_of_le hlt hb.size, fun i v hi => (World.cell?_of_block (w := w) (hb.block b hlt (by simp))).trans (hc i v hi)⟩

def eqB (l m : List Int) : Bool := decide (l = m)

set_option maxHeartbeats 1600000 in
theorem bytes_any (w : World) (A B : Option Addr) (l m : List Int) (c d : Nat) (hA : Rd w A l) (hB : Rd w B m) (hl : l.length ≤ maxLen) (hm : m.length ≤ maxLen) :
    Calls Tryz.prog 23 #[.slice A l.length c, .slice B m.length d] w fun e w' => e = .returned (.bool (eqB l m)) ∧ Only [] w w' := by
  unfold maxLen at hl hm
  by_cases hn : l.length = m.length
  · obtain ⟨n, hln⟩ : ∃ n, n = l.length := ⟨_, rfl⟩
    have hmn : n = m.length := by omega
    rw [← hn, ← hln]
    rw [← hln] at hl
    have HL := hide hln
    have HM := hide hmn
    clear hm hn hln hmn
    go_enter Tryz.func23, Tryz.ntmps23
    go_wp2
    go_loopw [13] (fun i wr => ∃ k : Nat, k ≤ n ∧ i = .int .i64 k ∧ l.take k = m.take k ∧ Only [] w wr) (fun i _ => n - (intOf i).toNat)
    case atStart => exact ⟨0, by omega, rfl, rfl, Only.refl _ _⟩
    case round =>
      obtain ⟨k, hk, rfl, ht, O⟩ := hrel
      have hln := HL.out
      have hmn := HM.out
      have HT := hide ht
      clear ht
      by_cases hlt : k < n
      · obtain ⟨b, off, rfl, hb, hc⟩ := (hA.only O) (by omega)
        obtain ⟨b', off', rfl, hb', hc'⟩ := (hB.only O) (by omega)
        have x1 : l[k]? = some (l[k]'(by omega)) := List.getElem?_eq_getElem (by omega)
        have y1 : m[k]? = some (m[k]'(by omega)) := List.getElem?_eq_getElem (by omega)
        obtain ⟨x, hx⟩ : ∃ x, l[k]'(by omega) = x := ⟨_, rfl⟩
        obtain ⟨y, hy⟩ : ∃ y, m[k]'(by omega) = y := ⟨_, rfl⟩
        rw [hx] at x1
        rw [hy] at y1
        have hc := hc _ _ x1
        have hc' := hc' _ _ y1
        have tl : l.take (k + 1) = l.take k ++ [x] := by rw [List.take_add_one, x1]; rfl
        have tm : m.take (k + 1) = m.take k ++ [y] := by rw [List.take_add_one, y1]; rfl
        have i0 : (k : Int) < (n : Int) := by omega
        have i1 : (0 : Int) ≤ (k : Int) := by omega
        have TL := hide tl
        have TM := hide tm
        have X1 := hide x1
        have Y1 := hide y1
        clear hln hmn x1 y1 hx hy tl tm
        by_cases hxy : x = y
        · subst hxy
          go_wp2
          go_quiet (fail)
          go_wp2
          go_roundw
          case rel => exact ⟨k + 1, by omega, by go_num, by rw [TL.out, TM.out, HT.out], O.drewN _⟩
          case measure => simp [intOf]; omega
        · have e1 : (x == y) = false := beq_eq_false_iff_ne.2 hxy
          have e2 : (x != y) = true := by simp [hxy]
          have hf : eqB l m = false := decide_eq_false (fun e => hxy (by have h1 := X1.out; have h2 := Y1.out; rw [e, h2] at h1; injection h1 with h1; exact h1.symm))
          have HF := hide hf
          clear hf hxy
          go_wp2
          go_quiet (fail)
          go_wp2
          go_ret
          exact ⟨ret_bool HF.out.symm, O.drewN _⟩
      · have hf : eqB l m = true := decide_eq_true (by have h1 := HT.out; rw [List.take_of_length_le (by omega), List.take_of_length_le (by omega)] at h1; exact h1)
        have HF := hide hf
        clear hf hln hmn
        go_wp2
        go_ret
        exact ⟨ret_bool HF.out.symm, O⟩
  · have hf : eqB l m = false := decide_eq_false (fun e => hn (by rw [e]))
    rw [hf]; clear hf
    have e1 : ((l.length : Int) == (m.length : Int)) = false := beq_eq_false_iff_ne.2 (by omega)
    have e2 : ((l.length : Int) != (m.length : Int)) = true := by simp; omega
    obtain ⟨a, ha⟩ : ∃ a, l.length = a := ⟨_, rfl⟩
    obtain ⟨b, hb⟩ : ∃ b, m.length = b := ⟨_, rfl⟩
    rw [ha, hb] at e1 e2 ⊢
    clear ha hb
    go_enter Tryz.func23, Tryz.ntmps23
    go_wp2
    go_ret
    exact ⟨rfl, Only.refl _ _⟩
end Go.Proofs.YtnfcdbjckdhieaaGreat

namespace Go.Proofs.YtnfcdbjckdhieaaGreat
set_option linter.all false
open Go.RowKit

theorem u8infos : (Tryz.prog.info? 5).map (fun i => (i.zero, i.size, i.bytes)) = some (some (.int .u8 0), 1, 1) := by kernel_rfl

/-- A slice of bytes of the call's own, in a block from base on: it reads as l. -/
def OwnB (w : World) (base : Nat) (v : Value) (l : List Int) : Prop := w.ownsRow base 5 1 v l.length (u8s l)
section
variable {w w' : World} {base : Nat} {v : Value} {l : List Int} {L : List Nat}
theorem ownB_nil (w : World) (base : Nat) : OwnB w base (.slice none 0 0) [] := World.ownsRow_nil w base _ _
theorem ownB_lit (w : World) (base : Nat) (l : List Int) (hb : base ≤ w.heap.size) (hl : l.length ≤ maxLen) : OwnB (w.alloc (.cells (u8s l).toArray 5)) base (.slice (some ⟨w.heap.size, 0, none⟩) l.length l.length) l := by
  have := World.ownsRow_lit (w := w) (base := base) (e := 5) (size := 1) (u8s l).toArray l.length hb hl (by simp [u8s])
  simpa [OwnB] using this
theorem ownB_blk {g : Nat} (h : Blk w g 5 (u8s l)) (hb : base ≤ g) (hl : l.length ≤ maxLen) : OwnB w base (.slice (some ⟨g, 0, none⟩) l.length l.length) l :=
  ⟨by simp [u8s], .inr ⟨g, l.length, (u8s l).toArray, rfl, hb, h, Nat.le_refl _, hl, by simp [u8s], by rw [List.take_of_length_le (by simp [u8s])]⟩⟩
theorem OwnB.mono {base' : Nat} (h : OwnB w base v l) (hb : base' ≤ base) : OwnB w base' v l := by
  refine ⟨h.1, ?_⟩
  rcases h.2 with h | ⟨g, cap, cur, e, hg, r⟩
  · exact .inl h
  · exact .inr ⟨g, cap, cur, e, by omega, r⟩
theorem OwnB.only (h : OwnB w base v l) (hb : Only L w w') (hL : ∀ x ∈ L, x < base) : OwnB w' base v l := by
  refine ⟨h.1, ?_⟩
  rcases h.2 with h | ⟨g, cap, cur, e, hg, hh, r⟩
  · exact .inl h
  · exact .inr ⟨g, cap, cur, e, hg, (hb.block g (Array.getElem?_eq_some_iff.1 hh).1 (fun hm => by have := hL g hm; omega)).trans hh, r⟩
theorem OwnB.far (h : OwnB w base v l) (hb : Only L w w') (hL : ∀ x ∈ L, some x ≠ v.ownBlock) : OwnB w' base v l := by
  refine ⟨h.1, ?_⟩
  rcases h.2 with h | ⟨g, cap, cur, e, hg, hh, r⟩
  · exact .inl h
  · exact .inr ⟨g, cap, cur, e, hg, (hb.block g (Array.getElem?_eq_some_iff.1 hh).1 (fun hm => hL g hm (by rw [e]; rfl))).trans hh, r⟩
theorem OwnB.block (h : OwnB w base v l) : ∀ k, v.ownBlock = some k → base ≤ k ∧ k < w.heap.size := World.ownsRow.lt h
/-- What it reads as, for whoever reads it. -/
theorem OwnB.rd (h : OwnB w base v l) : ∃ A cap, v = .slice A l.length cap ∧ Rd w A l ∧ l.length ≤ cap ∧ cap ≤ maxLen ∧ (∀ a, A = some a → base ≤ a.block) := by
  rcases h.2 with ⟨e, hn⟩ | ⟨g, cap, cur, e, hg, hh, hc, hm, hs, ht⟩
  · exact ⟨none, 0, by rw [e, hn], fun h0 => absurd h0 (by omega), by omega, by simp [maxLen], fun a ha => by cases ha⟩
  · refine ⟨some ⟨g, 0, none⟩, cap, e, fun _ => ⟨g, 0, rfl, (Array.getElem?_eq_some_iff.1 hh).1, fun i x hx => ?_⟩, hc, hm, fun a ha => by injection ha with ha; rw [← ha]; exact hg⟩
    subst e
    have := World.ownsRow.cells h (g := g) rfl i (.int .u8 x) (by rw [getElem?_u8s, hx]; rfl)
    simpa [Addr.add_lit] using this
end

/-- The cells that a slice of bytes reads as. -/
theorem Rd.news {w : World} {A : Option Addr} {l : List Int} (h : Rd w A l) (h0 : 0 < l.length) : ∃ ad, A = some ad ∧ ∀ j u, (u8s l)[j]? = some u → w.cell? (ad.add j) = some u := by
  obtain ⟨b, off, rfl, _, hc⟩ := h h0
  refine ⟨_, rfl, fun j u hu => ?_⟩
  rw [getElem?_u8s] at hu
  simp at hu
  obtain ⟨x, hx, rfl⟩ := hu
  have := hc j x hx
  simpa [Addr.add_lit] using this

/-- What append(s, x...) comes to, s of the call's own, x whatever reads as m. -/
theorem run_app {w : World} (ty : TypeId) (base : Nat) (v : Value) (l : List Int) (hown : OwnB w base v l) (A : Option Addr) (c : Nat) (m : List Int) (hr : Rd w A m)
    (hlen : l.length + m.length ≤ 140737488355328) (hbase : base ≤ w.heap.size) :
    ∃ v' w', (Builtin.append_ #[27, 27] ty #[v, .slice A m.length c]).run Tryz.prog w = .ok v' w' ∧ OwnB w' base v' (l ++ m) ∧ Only v.ownBlock.toList w w' ∧ (v' = .slice none 0 0 ↔ v = .slice none 0 0 ∧ m.length = 0) := by
  obtain ⟨i0, hi, hz0, hz1, hz2⟩ := info_parts u8infos
  have hu := Tryz.underlying27
  by_cases h0 : 0 < m.length
  · obtain ⟨ad, rfl, hn⟩ := hr.news h0
    obtain ⟨v', w', e, h1, h2, h3⟩ := run_append_own (P := Tryz.prog) w base 27 ty 5 i0 (.int .u8 0) 1 1 hu hi hz0 hz1 hz2 rfl (by decide) v l.length (u8s l) hown ad m.length c (u8s m) (by simp [u8s]) hn (u8s_one m) (by simp only [maxLen]; omega) (by omega) hbase
    exact ⟨v', w', e, by show World.ownsRow _ _ _ _ _ _ _; simpa [u8s] using h1, only_of_grown h2, h3⟩
  · have e0 : m = [] := List.eq_nil_of_length_eq_zero (by omega)
    subst e0
    refine ⟨v, w, ?_, by rw [List.append_nil]; exact hown, Only.refl _ _, by simp⟩
    have hf : ∀ w' : World, (Builtin.firstCells 1 0 (.slice A 0 c)).run Tryz.prog w' = .ok #[] w' := by
      intro w'
      cases A <;> simp [Builtin.firstCells, loadCells, loadCellsFrom]
    rcases hown.2 with ⟨rfl, hn⟩ | ⟨g, cap, cur, rfl, _, _, hnc, _⟩
    · cases A <;> simp [Builtin.append_, run_underlying hu, sizeOf, typeInfo, hi, hz1, Builtin.lenOf, hf]
    · cases A <;> simp [Builtin.append_, run_underlying hu, sizeOf, typeInfo, hi, hz1, Builtin.lenOf, hf, hnc, storeCells]

/-- append(s, x...), s of the call's own, x whatever reads as m. -/
theorem wpList_app {w : World} {ops : Array Oper} {rest : List Oper} {o : Oper} {a : Act} {Q : Exit → Act → World → Prop} (hgd : o.guard = none) (s x : Operand)
    (ho : o.op = .call { callee := .builtin .append, args := #[s, x], argTypes := #[27, 27] })
    (base : Nat) (v : Value) (l : List Int) (hs : a.eval s = v) (hown : OwnB w base v l) (A : Option Addr) (c : Nat) (m : List Int) (hx : a.eval x = .slice A m.length c) (hr : Rd w A m)
    (hlen : l.length + m.length ≤ 140737488355328) (hbase : base ≤ w.heap.size)
    (h : ∀ v' w', Hid (OwnB w' base v' (l ++ m)) → Only v.ownBlock.toList w w' → Hid (v' = .slice none 0 0 ↔ v = .slice none 0 0 ∧ m.length = 0) → wpList Tryz.prog ops Q rest (a.put o.dst v') w') : wpList Tryz.prog ops Q (o :: rest) a w := by
  refine wpList_plain hgd fun K hK => ?_
  obtain ⟨v', w', hrun, h1, h2, h3⟩ := run_app o.type base v l hown A c m hr hlen hbase
  unfold Oper.wp execOp
  simp only [ho, resolve, invoke, builtin, Sem.run_bind, Sem.run_pure, Result.andThen_ok, List.map_toArray, List.map_cons, List.map_nil, hs, hx, hrun]
  exact hK _ _ (h v' w' h1 h2 h3)
end Go.Proofs.YtnfcdbjckdhieaaGreat

namespace Go.Proofs.YtnfcdbjckdhieaaGreat
set_option linter.all false
open Go.RowKit

theorem run_app2 {w : World} (ty : TypeId) (base : Nat) (v : Value) (l : List Int) (hown : OwnB w base v l) (A : Option Addr) (c : Nat) (m : List Int) (hr : Rd w A m)
    (hlen : l.length + m.length ≤ 140737488355328) (hbase : base ≤ w.heap.size) :
    ∃ v' w', (Builtin.append_ #[27, 27] ty #[v, .slice A m.length c]).run Tryz.prog w = .ok v' w' ∧ OwnB w' base v' (l ++ m) ∧ Only v.ownBlock.toList w w' ∧ (v' = .slice none 0 0 ↔ v = .slice none 0 0 ∧ m.length = 0) ∧
      (v'.ownBlock = v.ownBlock ∨ v'.ownBlock = some w.heap.size) := by
  obtain ⟨v', w', e, h1, h2, h3⟩ := run_app ty base v l hown A c m hr hlen hbase
  refine ⟨v', w', e, h1, h2, h3, ?_⟩
  obtain ⟨i0, hi, hz0, hz1, hz2⟩ := info_parts u8infos
  have hu := Tryz.underlying27
  have hsm : ((u8s m).length = m.length * i0.size) := by rw [hz1]; simp [u8s]
  by_cases h0 : 0 < m.length
  · obtain ⟨ad, rfl, hn⟩ := hr.news h0
    rcases hown.2 with ⟨rfl, hn0⟩ | ⟨g, cap, cur, rfl, hg, hh, hc, hm, hs, ht⟩
    · have := run_append_nil (P := Tryz.prog) w 27 ty 5 i0 (.int .u8 0) hu hi hz0 ad m.length c (u8s m) hsm hn h0 (by omega) (by rw [hz2]; omega)
      rw [this] at e
      injection e with e1 e2
      right; rw [← e1]; rfl
    · by_cases hroom : l.length + m.length ≤ cap
      · obtain ⟨w2, e2, _⟩ := run_append_fits (P := Tryz.prog) w base 27 ty 5 i0 1 hu hi hz1 g l.length cap (u8s l) hown ad m.length c (u8s m) (by simp [u8s]) hn (u8s_one m) hroom
        rw [e2] at e
        injection e with e1 _
        left; rw [← e1]; rfl
      · have holds : ∀ j u, (u8s l)[j]? = some u → w.cell? ((⟨g, 0, none⟩ : Addr).add j) = some u := World.ownsRow.cells hown (g := g) rfl
        have := run_append_grow (P := Tryz.prog) w 27 ty 5 i0 (.int .u8 0) hu hi hz0 ⟨g, 0, none⟩ l.length cap (u8s l) (by rw [hz1]; simp [u8s]) holds ad m.length c (u8s m) hsm hn (by omega) (by omega) (growslice_fits (by omega) (by rw [hz2]; omega))
        rw [this] at e
        injection e with e1 _
        right; rw [← e1]; rfl
  · have e0 : m = [] := List.eq_nil_of_length_eq_zero (by omega)
    subst e0
    have hf : ∀ w' : World, (Builtin.firstCells 1 0 (.slice A 0 c)).run Tryz.prog w' = .ok #[] w' := by
      intro w'
      cases A <;> simp [Builtin.firstCells, loadCells, loadCellsFrom]
    have : (Builtin.append_ #[27, 27] ty #[v, .slice A 0 c]).run Tryz.prog w = .ok v w := by
      rcases hown.2 with ⟨rfl, hn⟩ | ⟨g, cap, cur, rfl, _, _, hnc, _⟩
      · cases A <;> simp [Builtin.append_, run_underlying hu, sizeOf, typeInfo, hi, hz1, Builtin.lenOf, hf]
      · cases A <;> simp [Builtin.append_, run_underlying hu, sizeOf, typeInfo, hi, hz1, Builtin.lenOf, hf, hnc, storeCells]
    rw [show ([] : List Int).length = 0 from rfl, this] at e
    injection e with e1 _
    left; rw [e1]

/-- append(s, x...), s of the call's own, x whatever reads as m. -/
theorem wpList_app2 {w : World} {ops : Array Oper} {rest : List Oper} {o : Oper} {a : Act} {Q : Exit → Act → World → Prop} (hgd : o.guard = none) (s x : Operand)
    (ho : o.op = .call { callee := .builtin .append, args := #[s, x], argTypes := #[27, 27] })
    (base : Nat) (v : Value) (l : List Int) (hs : a.eval s = v) (hown : OwnB w base v l) (A : Option Addr) (c : Nat) (m : List Int) (hx : a.eval x = .slice A m.length c) (hr : Rd w A m)
    (hlen : l.length + m.length ≤ 140737488355328) (hbase : base ≤ w.heap.size)
    (h : ∀ v' w', Hid (OwnB w' base v' (l ++ m)) → Only v.ownBlock.toList w w' → Hid (v'.ownBlock = v.ownBlock ∨ v'.ownBlock = some w.heap.size) → wpList Tryz.prog ops Q rest (a.put o.dst v') w') : wpList Tryz.prog ops Q (o :: rest) a w := by
  refine wpList_plain hgd fun K hK => ?_
  obtain ⟨v', w', hrun, h1, h2, _, h3⟩ := run_app2 o.type base v l hown A c m hr hlen hbase
  unfold Oper.wp execOp
  simp only [ho, resolve, invoke, builtin, Sem.run_bind, Sem.run_pure, Result.andThen_ok, List.map_toArray, List.map_cons, List.map_nil, hs, hx, hrun]
  exact hK _ _ (h v' w' h1 h2 h3)
end Go.Proofs.YtnfcdbjckdhieaaGreat

namespace Go.Proofs.YtnfcdbjckdhieaaGreat
set_option linter.all false
open Go.RowKit

theorem OwnB.form {w : World} {base : Nat} {v : Value} {l : List Int} (h : OwnB w base v l) (h0 : 0 < l.length) : ∃ g cap, v = .slice (some ⟨g, 0, none⟩) l.length cap ∧ base ≤ g ∧ g < w.heap.size := by
  rcases h.2 with ⟨_, hn⟩ | ⟨g, cap, cur, e, hg, hh, _⟩
  · omega
  · exact ⟨g, cap, e, hg, (Array.getElem?_eq_some_iff.1 hh).1⟩

def Where (v : Value) (g H : Nat) : Prop := v.ownBlock = some g ∨ g = H
theorem step_app {w : World} {ops : Array Oper} {o : Oper} {a : Act} {K : Act → World → Prop} {Q : Exit → Act → World → Prop} {E : Prop} (hgd : o.guard = none) (s x : Operand)
    (ho : o.op = .call { callee := .builtin .append, args := #[s, x], argTypes := #[27, 27] })
    (base : Nat) (v : Value) (l : List Int) (hs : a.eval s = v) (hown : OwnB w base v l) (A : Option Addr) (c : Nat) (m : List Int) (k : Nat) (hk : m.length = k) (hx : a.eval x = .slice A k c) (hr : Rd w A m) (h0 : 0 < k)
    (hlen : l.length + m.length ≤ 140737488355328) (hbase : base ≤ w.heap.size)
    (h : ∀ g cap w', Hid (OwnB w' base (.slice (some ⟨g, 0, none⟩) (l.length + k) cap) (l ++ m)) → Only v.ownBlock.toList w w' → Hid (Where v g w.heap.size) → K (a.put o.dst (.slice (some ⟨g, 0, none⟩) (l.length + k) cap)) w') :
    if Region.wanted o (yielded ops a.tmps) = true then Oper.wp Tryz.prog o a w K Q else E := by
  have hw : Region.wanted o (yielded ops a.tmps) = true := by simp [Region.wanted, hgd]
  rw [if_pos hw]
  subst hk
  obtain ⟨v', w', hrun, h1, h2, _, h3⟩ := run_app2 o.type base v l hown A c m hr hlen hbase
  obtain ⟨g, cap, rfl, hg, hgl⟩ := h1.form (by simp; omega)
  unfold Oper.wp execOp
  simp only [ho, resolve, invoke, builtin, Sem.run_bind, Sem.run_pure, Result.andThen_ok, List.map_toArray, List.map_cons, List.map_nil, hs, hx, hrun]
  have hh := h g cap w' (by rw [← List.length_append]; exact h1) h2 (by
    show Where v g w.heap.size
    rcases h3 with h3 | h3
    · left; rw [← h3]; rfl
    · right; simpa [Value.ownBlock] using h3)
  rw [← List.length_append] at hh
  exact hh

theorem wpList_app3 {w : World} {ops : Array Oper} {rest : List Oper} {o : Oper} {a : Act} {Q : Exit → Act → World → Prop} (hgd : o.guard = none) (s x : Operand)
    (ho : o.op = .call { callee := .builtin .append, args := #[s, x], argTypes := #[27, 27] })
    (base : Nat) (v : Value) (l : List Int) (hs : a.eval s = v) (hown : OwnB w base v l) (A : Option Addr) (c : Nat) (m : List Int) (k : Nat) (hk : m.length = k) (hx : a.eval x = .slice A k c) (hr : Rd w A m)
    (hlen : l.length + m.length ≤ 140737488355328) (hbase : base ≤ w.heap.size)
    (h : ∀ v' w', Hid (OwnB w' base v' (l ++ m)) → Only v.ownBlock.toList w w' → Hid (v'.ownBlock = v.ownBlock ∨ v'.ownBlock = some w.heap.size) → wpList Tryz.prog ops Q rest (a.put o.dst v') w') : wpList Tryz.prog ops Q (o :: rest) a w := by
  subst hk
  exact wpList_app2 hgd s x ho base v l hs hown A c m hx hr hlen hbase h

theorem rd_one (w : World) (x : Int) : Rd (w.alloc (.cells #[.int .u8 x] 5)) (some ⟨w.heap.size, 0, none⟩) [x] := fun _ => ⟨w.heap.size, 0, rfl, by simp, fun i v hi => by
  match i, hi with
  | 0, hi => simp at hi; subst hi; simp [World.cell?_alloc_mark]⟩

def Where2 (v v' : Value) (H : Nat) : Prop := v'.ownBlock = v.ownBlock ∨ v'.ownBlock = some H
/-- append(s, x...) as one step, whatever x's length. -/
theorem step_app0 {w : World} {ops : Array Oper} {o : Oper} {a : Act} {K : Act → World → Prop} {Q : Exit → Act → World → Prop} {E : Prop} (hgd : o.guard = none) (s x : Operand)
    (ho : o.op = .call { callee := .builtin .append, args := #[s, x], argTypes := #[27, 27] })
    (base : Nat) (v : Value) (l : List Int) (hs : a.eval s = v) (hown : OwnB w base v l) (A : Option Addr) (c : Nat) (m : List Int) (k : Nat) (hk : m.length = k) (hx : a.eval x = .slice A k c) (hr : Rd w A m)
    (hlen : l.length + m.length ≤ 140737488355328) (hbase : base ≤ w.heap.size)
    (h : ∀ A' cap w', Hid (OwnB w' base (.slice A' (l.length + k) cap) (l ++ m)) → Only v.ownBlock.toList w w' → Hid (Where2 v (.slice A' (l.length + k) cap) w.heap.size) → K (a.put o.dst (.slice A' (l.length + k) cap)) w') :
    if Region.wanted o (yielded ops a.tmps) = true then Oper.wp Tryz.prog o a w K Q else E := by
  have hw : Region.wanted o (yielded ops a.tmps) = true := by simp [Region.wanted, hgd]
  rw [if_pos hw]
  subst hk
  obtain ⟨v', w', hrun, h1, h2, _, h3⟩ := run_app2 o.type base v l hown A c m hr hlen hbase
  obtain ⟨A', cap, rfl, _⟩ := h1.rd
  unfold Oper.wp execOp
  simp only [ho, resolve, invoke, builtin, Sem.run_bind, Sem.run_pure, Result.andThen_ok, List.map_toArray, List.map_cons, List.map_nil, hs, hx, hrun]
  rw [List.length_append] at h1 h3 ⊢
  exact h A' cap w' h1 h2 h3
end Go.Proofs.YtnfcdbjckdhieaaGreat

namespace Go.Proofs.YtnfcdbjckdhieaaGreat
set_option linter.all false
open Go.RowKit

/-- A slice that is read: its elements, each a cell. -/
def RdG {α : Type} (mk : α → Value) (w : World) (A : Option Addr) (l : List α) : Prop :=
  0 < l.length → ∃ b off, A = some ⟨b, off, none⟩ ∧ b < w.heap.size ∧ ∀ i x, l[i]? = some x → w.cell? ⟨b, off + i, none⟩ = some (mk x)
section
variable {α : Type} {mk : α → Value} {w w' : World} {A : Option Addr} {l : List α}
theorem RdG.onlyL {L : List Nat} (h : RdG mk w A l) (hb : Only L w w') (hL : ∀ a, A = some a → 0 < l.length → a.block ∉ L) : RdG mk w' A l := by
  intro h0
  obtain ⟨b, off, rfl, hlt, hc⟩ := h h0
  exact ⟨b, off, rfl, Nat.lt_of_lt_of_le hlt hb.size, fun i v hi => (World.cell?_of_block (w := w) (hb.block b hlt (hL _ rfl h0))).trans (hc i v hi)⟩
theorem RdG.only (h : RdG mk w A l) (hb : Only [] w w') : RdG mk w' A l := h.onlyL hb (fun _ _ _ => by simp)
theorem RdG.nil : RdG mk w A [] := fun h => absurd h (Nat.lt_irrefl _)
theorem RdG.lt (h : RdG mk w A l) (h0 : 0 < l.length) : ∀ a, A = some a → a.block < w.heap.size := by
  intro a ha
  obtain ⟨b, off, e, hb, _⟩ := h h0
  rw [ha] at e; injection e with e; rw [e]; exact hb
theorem RdG.take (h : RdG mk w A l) (k : Nat) : RdG mk w A (l.take k) := by
  intro h0
  obtain ⟨b, off, rfl, hlt, hc⟩ := h (by simp at h0; omega)
  refine ⟨b, off, rfl, hlt, fun i v hi => hc i v ?_⟩
  rw [List.getElem?_take] at hi
  split at hi
  · exact hi
  · cases hi
theorem RdG.drop (h : RdG mk w A l) (k : Nat) : RdG mk w (Option.map (fun x => x.add k) A) (l.drop k) := by
  intro h0
  obtain ⟨b, off, rfl, hlt, hc⟩ := h (by simp at h0; omega)
  refine ⟨b, off + k, by simp [Addr.add_lit], hlt, fun i v hi => ?_⟩
  rw [List.getElem?_drop] at hi
  rw [Nat.add_assoc]; exact hc _ _ hi
/-- The cell of an element. -/
theorem RdG.at (h : RdG mk w A l) (k : Nat) (hk : k < l.length) : ∃ b off x, A = some ⟨b, off, none⟩ ∧ b < w.heap.size ∧ l[k]? = some x ∧ w.cell? ⟨b, off + k, none⟩ = some (mk x) := by
  obtain ⟨b, off, rfl, hlt, hc⟩ := h (by omega)
  have hx : l[k]? = some (l[k]'hk) := List.getElem?_eq_getElem hk
  exact ⟨b, off, _, rfl, hlt, hx, hc k _ hx⟩
end
/-- Integers and texts. -/
abbrev RdI := RdG (Value.int .i64)
abbrev RdS := RdG Value.string
theorem take_snocG {α : Type} {l : List α} {k : Nat} {x : α} (h : l[k]? = some x) : l.take (k + 1) = l.take k ++ [x] := by rw [List.take_add_one, h]; rfl
end Go.Proofs.YtnfcdbjckdhieaaGreat

namespace Go.Proofs.YtnfcdbjckdhieaaGreat
set_option linter.all false
open Go.RowKit

/-- The type of a slice's elements: so many cells, so many bytes. -/
structure ElemT (P : Program) (tS E : TypeId) (size bytes : Nat) : Prop where
  ht : P.underlying tS = some (.slice E)
  info : ∃ (i : TypeInfo) (z : Value), P.info? E = some i ∧ i.zero = some z ∧ i.size = size ∧ i.bytes = bytes ∧ z.cells.size = size
  pos : 0 < size
theorem elemT_of {P : Program} {tS E : TypeId} {size bytes : Nat} {z : Value} (ht : P.underlying tS = some (.slice E)) (hi : (P.info? E).map (fun i => (i.zero, i.size, i.bytes)) = some (some z, size, bytes)) (hz : z.cells.size = size) (hp : 0 < size) : ElemT P tS E size bytes := by
  obtain ⟨i0, h1, h2, h3, h4⟩ := info_parts hi
  exact ⟨ht, ⟨i0, z, h1, h2, h3, h4, hz⟩, hp⟩
section
variable {α : Type}
/-- The slice v is of the call's own (from block base on) and holds these. -/
def OwnX (cf : α → List Value) (E : TypeId) (size : Nat) (w : World) (base : Nat) (v : Value) (l : List α) : Prop := w.ownsRow base E size v l.length (l.flatMap cf)
/-- A slice that is read. -/
def RdX (cf : α → List Value) (w : World) (A : Option Addr) (l : List α) : Prop :=
  0 < l.length → ∃ b off, A = some ⟨b, off, none⟩ ∧ b < w.heap.size ∧ ∀ j u, (l.flatMap cf)[j]? = some u → w.cell? ⟨b, off + j, none⟩ = some u
variable {cf : α → List Value} {E : TypeId} {size : Nat} {w w' : World} {base : Nat} {v : Value} {l : List α} {A : Option Addr}
theorem ownX_nil : OwnX cf E size w base (.slice none 0 0) [] := World.ownsRow_nil w base _ _
theorem OwnX.far {L : List Nat} (h : OwnX cf E size w base v l) (hb : Only L w w') (hL : ∀ x ∈ L, some x ≠ v.ownBlock) : OwnX cf E size w' base v l := by
  rcases h with ⟨h1, h2 | ⟨g, cap, cur, rfl, hg, hh, hr⟩⟩
  · exact ⟨h1, .inl h2⟩
  · exact ⟨h1, .inr ⟨g, cap, cur, rfl, hg, (hb.block g (Array.getElem?_eq_some_iff.1 hh).1 (fun hm => hL g hm rfl)).trans hh, hr⟩⟩
theorem OwnX.only (h : OwnX cf E size w base v l) (hb : Only [] w w') : OwnX cf E size w' base v l := h.far hb (fun x hx => by simp at hx)
theorem OwnX.mono {base' : Nat} (h : OwnX cf E size w base v l) (hb : base' ≤ base) : OwnX cf E size w base' v l := by
  rcases h with ⟨h1, h2 | ⟨g, cap, cur, rfl, hg, hh⟩⟩
  · exact ⟨h1, .inl h2⟩
  · exact ⟨h1, .inr ⟨g, cap, cur, rfl, by omega, hh⟩⟩
theorem OwnX.block (h : OwnX cf E size w base v l) : ∀ k, v.ownBlock = some k → base ≤ k ∧ k < w.heap.size := World.ownsRow.lt h
theorem OwnX.form (h : OwnX cf E size w base v l) : ∃ A cap, v = .slice A l.length cap ∧ l.length ≤ cap ∧ cap ≤ maxLen ∧ RdX cf w A l ∧ ∀ a, A = some a → base ≤ a.block ∧ a.block < w.heap.size ∧ v.ownBlock = some a.block := by
  have hb := h.block
  rcases h with ⟨h1, ⟨rfl, hn⟩ | ⟨g, cap, cur, rfl, hg, hh, hc, hm, hs, ht⟩⟩
  · exact ⟨none, 0, by rw [hn], by omega, by simp [maxLen], fun h0 => by omega, fun a ha => by cases ha⟩
  · refine ⟨some ⟨g, 0, none⟩, cap, rfl, hc, hm, fun _ => ⟨g, 0, rfl, (Array.getElem?_eq_some_iff.1 hh).1, fun j u hj => ?_⟩, fun a ha => ?_⟩
    · have := World.ownsRow.cells (w := w) (base := base) (e := E) (size := size) (n := l.length) (xs := l.flatMap cf) ⟨h1, .inr ⟨g, cap, cur, rfl, hg, hh, hc, hm, hs, ht⟩⟩ (g := g) rfl j u hj
      simpa [Addr.add_lit] using this
    · injection ha with ha
      subst ha
      exact ⟨(hb _ rfl).1, (hb _ rfl).2, rfl⟩
theorem RdX.only (h : RdX cf w A l) (hb : Only [] w w') : RdX cf w' A l := fun h0 => by
  obtain ⟨b, off, e, hlt, hc⟩ := h h0
  exact ⟨b, off, e, Nat.lt_of_lt_of_le hlt hb.size, fun j u hj => (World.cell?_of_block (w := w) (hb.block b hlt (by simp))).trans (hc j u hj)⟩
theorem RdX.far {L : List Nat} (h : RdX cf w A l) (hb : Only L w w') (hL : ∀ a, A = some a → 0 < l.length → a.block ∉ L) : RdX cf w' A l := fun h0 => by
  obtain ⟨b, off, e, hlt, hc⟩ := h h0
  refine ⟨b, off, e, Nat.lt_of_lt_of_le hlt hb.size, fun j u hj => ?_⟩
  have hk := hc j u hj
  have hbk := hb.block b hlt (hL _ e h0)
  exact (World.cell?_of_block (w := w) hbk).trans hk
theorem rdX_nil : RdX cf w A [] := fun h => absurd h (Nat.lt_irrefl _)
/-- A literal of these. -/
theorem ownX_lit (w : World) (l : List α) (n : Nat) (hn : l.length = n) (hm : n ≤ maxLen) (hc : ∀ x, (cf x).length = size) (cs : Array Value) (h : cs = (l.flatMap cf).toArray) : OwnX cf E size (w.alloc (.cells cs E)) w.heap.size (.slice (some ⟨w.heap.size, 0, none⟩) n n) l := by
  subst h
  subst hn
  have hl : ∀ l : List α, (l.flatMap cf).length = l.length * size := by
    intro l
    induction l with
    | nil => simp
    | cons a l ih => rw [List.flatMap_cons, List.length_append, ih, hc, List.length_cons, Nat.succ_mul]; omega
  exact ⟨hl l, .inr ⟨w.heap.size, l.length, (l.flatMap cf).toArray, rfl, Nat.le_refl _, heap_alloc_new w (.cells (l.flatMap cf).toArray E), Nat.le_refl _, hm, by simp [hl l], by rw [← hl l]; exact List.take_of_length_le (Nat.le_refl _)⟩⟩
variable {P : Program} {tS : TypeId} {bytes : Nat}
theorem run_appX (ht : ElemT P tS E size bytes) (ty : TypeId) (hone : ∀ x, ∀ u ∈ cf x, u.oneCell' = true) (hown : OwnX cf E size w base v l) (A : Option Addr) (c : Nat) (gs : List α) (hgl : (gs.flatMap cf).length = gs.length * size) (hr : RdX cf w A gs)
    (hlen : l.length + gs.length ≤ maxLen) (hby : (l.length + gs.length) * bytes ≤ 140737488355328) (hbase : base ≤ w.heap.size) :
    ∃ v' w', (Builtin.append_ #[tS, tS] ty #[v, .slice A gs.length c]).run P w = .ok v' w' ∧ OwnX cf E size w' base v' (l ++ gs) ∧ Only v.ownBlock.toList w w' ∧ Where2 v v' w.heap.size := by
  obtain ⟨hu, ⟨i0, z, hi, hz0, hz1, hz2, hzs⟩, hpos⟩ := ht
  by_cases h0 : 0 < gs.length
  · obtain ⟨b, off, rfl, hb, hc⟩ := hr h0
    have hn : ∀ j u, (gs.flatMap cf)[j]? = some u → w.cell? ((⟨b, off, none⟩ : Addr).add j) = some u := fun j u hj => by rw [Addr.add_lit]; exact hc j u hj
    have h1c : ∀ u ∈ gs.flatMap cf, u.oneCell' = true := fun u hu => by
      obtain ⟨x, _, hx⟩ := List.mem_flatMap.1 hu
      exact hone x u hx
    obtain ⟨v', w', e, h1, h2, h3⟩ := run_append_own (P := P) w base tS ty E i0 z size bytes hu hi hz0 hz1 hz2 hzs hpos v l.length (l.flatMap cf) hown ⟨b, off, none⟩ gs.length c (gs.flatMap cf) hgl hn h1c hlen hby hbase
    have hwh : v'.ownBlock = v.ownBlock ∨ v'.ownBlock = some w.heap.size := by
      have hle : (l.length + gs.length) * i0.bytes ≤ 140737488355328 := by rw [hz2]; exact hby
      have hlm : ((l.length + gs.length : Nat) : Int) ≤ 9223372036854775807 := by unfold maxLen at hlen; omega
      rcases hown.2 with ⟨rfl, hn0⟩ | ⟨g, cap, cur, rfl, hg, hh, hc2, hm, hs, htk⟩
      · have := run_append_nil (P := P) w tS ty E i0 z hu hi hz0 ⟨b, off, none⟩ gs.length c (gs.flatMap cf) (by rw [hz1]; exact hgl) hn h0 (by omega) (by rw [hn0, Nat.zero_add] at hle; omega)
        rw [this] at e
        injection e with e1 e2
        right; rw [← e1]; rfl
      · by_cases hroom : l.length + gs.length ≤ cap
        · obtain ⟨w2, e2, _⟩ := run_append_fits (P := P) w base tS ty E i0 size hu hi hz1 g l.length cap (l.flatMap cf) hown ⟨b, off, none⟩ gs.length c (gs.flatMap cf) hgl hn h1c hroom
          rw [e2] at e
          injection e with e1 _
          left; rw [← e1]; rfl
        · have holds : ∀ j u, (l.flatMap cf)[j]? = some u → w.cell? ((⟨g, 0, none⟩ : Addr).add j) = some u := World.ownsRow.cells hown (g := g) rfl
          have := run_append_grow (P := P) w tS ty E i0 z hu hi hz0 ⟨g, 0, none⟩ l.length cap (l.flatMap cf) (by rw [hz1]; exact hown.1) holds ⟨b, off, none⟩ gs.length c (gs.flatMap cf) (by rw [hz1]; exact hgl) hn (by omega) (by omega) (growslice_fits (by omega) (by omega))
          rw [this] at e
          injection e with e1 _
          right; rw [← e1]; rfl
    exact ⟨v', w', e, by show World.ownsRow _ _ _ _ _ _ _; simpa [List.flatMap_append] using h1, only_of_grown h2, hwh⟩
  · have e0 : gs = [] := List.eq_nil_of_length_eq_zero (by omega)
    subst e0
    refine ⟨v, w, ?_, by rw [List.append_nil]; exact hown, Only.refl _ _, .inl rfl⟩
    have hf : ∀ w' : World, (Builtin.firstCells size 0 (.slice A 0 c)).run P w' = .ok #[] w' := by
      intro w'
      cases A <;> simp [Builtin.firstCells, loadCells, loadCellsFrom]
    rcases hown.2 with ⟨rfl, hn⟩ | ⟨g, cap, cur, rfl, _, _, hnc, _⟩
    · cases A <;> simp [Builtin.append_, run_underlying hu, sizeOf, typeInfo, hi, hz1, Builtin.lenOf, hf]
    · cases A <;> simp [Builtin.append_, run_underlying hu, sizeOf, typeInfo, hi, hz1, Builtin.lenOf, hf, hnc, storeCells]
/-- The operation append, as it stands in a region. -/
theorem wp_appX {o : Oper} {a : Act} {K : Act → World → Prop} {Q : Exit → Act → World → Prop} (s x : Operand)
    (ht : ElemT P tS E size bytes) (ho : o.op = .call { callee := .builtin .append, args := #[s, x], argTypes := #[tS, tS] })
    (hone : ∀ x, ∀ u ∈ cf x, u.oneCell' = true) (hcl : ∀ x, (cf x).length = size) (hs : a.eval s = v) (hown : OwnX cf E size w base v l) (A : Option Addr) (c : Nat) (gs : List α) (n : Nat) (hn : gs.length = n) (hx : a.eval x = .slice A n c) (hr : RdX cf w A gs)
    (hlen : l.length + gs.length ≤ maxLen) (hby : (l.length + gs.length) * bytes ≤ 140737488355328) (hbase : base ≤ w.heap.size)
    (h : ∀ v' w', Hid (OwnX cf E size w' base v' (l ++ gs)) → Only v.ownBlock.toList w w' → Hid (Where2 v v' w.heap.size) → K (a.put o.dst v') w') : o.wp P a w K Q := by
  subst hn
  have hgl : (gs.flatMap cf).length = gs.length * size := by
    clear hx hr hlen hby h
    induction gs with
    | nil => simp
    | cons a gs ih => rw [List.flatMap_cons, List.length_append, ih, hcl, List.length_cons, Nat.succ_mul]; omega
  obtain ⟨v', w', hrun, h1, h2, h3⟩ := run_appX ht o.type hone hown A c gs hgl hr hlen hby hbase
  unfold Oper.wp execOp
  simp only [ho, resolve, invoke, builtin, Sem.run_bind, Sem.run_pure, Result.andThen_ok, List.map_toArray, List.map_cons, List.map_nil, hs, hx, hrun]
  exact h v' w' h1 h2 h3
theorem wpList_appX {ops : Array Oper} {rest : List Oper} {o : Oper} {a : Act} {Q : Exit → Act → World → Prop} (hgd : o.guard = none) (s x : Operand)
    (ht : ElemT P tS E size bytes) (ho : o.op = .call { callee := .builtin .append, args := #[s, x], argTypes := #[tS, tS] })
    (hone : ∀ x, ∀ u ∈ cf x, u.oneCell' = true) (hcl : ∀ x, (cf x).length = size) (hs : a.eval s = v) (hown : OwnX cf E size w base v l) (A : Option Addr) (c : Nat) (gs : List α) (n : Nat) (hn : gs.length = n) (hx : a.eval x = .slice A n c) (hr : RdX cf w A gs)
    (hlen : l.length + gs.length ≤ maxLen) (hby : (l.length + gs.length) * bytes ≤ 140737488355328) (hbase : base ≤ w.heap.size)
    (h : ∀ v' w', Hid (OwnX cf E size w' base v' (l ++ gs)) → Only v.ownBlock.toList w w' → Hid (Where2 v v' w.heap.size) → wpList P ops Q rest (a.put o.dst v') w') : wpList P ops Q (o :: rest) a w :=
  wpList_plain hgd fun K hK => wp_appX s x ht ho hone hcl hs hown A c gs n hn hx hr hlen hby hbase (fun v' w' h1 h2 h3 => hK _ _ (h v' w' h1 h2 h3))
end
end Go.Proofs.YtnfcdbjckdhieaaGreat

namespace Go.Proofs.YtnfcdbjckdhieaaGreat
set_option linter.all false
def U32 (n : Int) : Prop := 0 ≤ n ∧ n ≤ 4294967295
end Go.Proofs.YtnfcdbjckdhieaaGreat

namespace Go.Proofs.YtnfcdbjckdhieaaGreat
set_option linter.all false
open Go.ChangeShapes Go.WideShapes Go.ChangeAt Go.RowKit Go.Deep

section
variable {H : Type} {enc : TypeId × Value → H} {P : Program} {w : World} {base : Nat} {spare : Nat → Bool} {held : Bool}
theorem agg_int {k : IntKind} {n : Nat} {t : TypeId} {c : Value} {y : DataW H × List MemPlace} (ht : P.underlying t = some (.int k)) (h : DataW.trod enc P w base spare held n t [c] = some y) : ∃ a, c = .int k a ∧ (Lit.int k a).wf = true := by
  obtain ⟨a, e, _, wa⟩ := DataW.trod_int ht h
  exact ⟨a, by simpa using e, wa⟩
def FieldsAt (enc : TypeId × Value → H) (P : Program) (w : World) (base : Nat) (spare : Nat → Bool) (held : Bool) (n : Nat) (fs : Array Field) (l : List Value) : Prop :=
  ∀ (j : Nat) (f : Field), fs[j]? = some f → ∃ y, DataW.trod enc P w base spare held n f.type ((l.drop f.offset).take (P.cellsOf f.type)) = some y
theorem trod_fields {n : Nat} {t : TypeId} {fs : Array Field} {l : List Value} {y : DataW H × List MemPlace} (hs : P.underlying t = some (.struct fs)) (h : DataW.trod enc P w base spare held n t l = some y) : ∃ n', FieldsAt enc P w base spare held n' fs l := by
  obtain ⟨ys, n', _, _, _, hyl, hg⟩ := DataW.trod_struct hs h
  refine ⟨n', fun j f hj => ?_⟩
  have hjl : j < fs.size := (Array.getElem?_eq_some_iff.1 hj).1
  exact ⟨ys[j]'(by omega), (hg j f hj).trans (List.getElem?_eq_getElem (by omega))⟩
theorem FieldsAt.at_ {n : Nat} {fs : Array Field} {l l' : List Value} (h : FieldsAt enc P w base spare held n fs l) (j : Nat) (T : TypeId) (off k : Nat) (f : Field) (hj : fs[j]? = some f) (hT : f.type = T) (ho : f.offset = off) (hk : P.cellsOf T = k) (hl : (l.drop off).take k = l') :
    ∃ y, DataW.trod enc P w base spare held n T l' = some y := by
  obtain ⟨y, hy⟩ := h j f hj
  rw [hT, ho, hk, hl] at hy
  exact ⟨y, hy⟩
/-- A struct that is handed in: its cells, its fields. -/
theorem open_struct {r : Reach} {b0 : Nat} {t : TypeId} {fs : Array Field} {v : Value} {d : DataW H} {p : List MemPlace} {k : Nat} (hs : P.underlying t = some (.struct fs)) (hC : P.cellsOf t = k)
    (hv : Value.okWide P w r b0 t v) (h : DataW.Trod enc P w base spare held t v d p) : ∃ (l : List Value) (n : Nat), v = .agg l.toArray ∧ l.length = k ∧ FieldsAt enc P w base spare held n fs l := by
  obtain ⟨cs, rfl, hsz⟩ := okWide_struct hs hv
  obtain ⟨l⟩ := cs
  obtain ⟨fuel, hf⟩ := h
  obtain ⟨n, hn⟩ := trod_fields hs hf
  have hcs : (Value.agg ⟨l⟩).cells.toList = l := by simp [Value.cells]
  rw [hcs] at hn
  exact ⟨l, n, rfl, by simpa using hsz.trans hC, hn⟩
theorem aggP_ints {k : IntKind} {n : Nat} {t e : TypeId} {c : Value} {y : DataW H × List MemPlace} (ht : P.underlying t = some (.slice e)) (he : P.underlying e = some (.int k)) (hc : P.cellsOf e = 1) (h : DataW.trod enc P w base spare held n t [c] = some y) :
    ∃ A len cap zs, c = .slice A len cap ∧ len ≤ cap ∧ cap ≤ maxLen ∧ Ints k w A len zs := by
  rcases Go.ChangeShapes.open_ints ht he hc h with ⟨hcs, _⟩ | ⟨a, l, c', zs, hcs, _, hl, hm, hz, _, hcell, hwz⟩
  · simp at hcs
    subst hcs
    exact ⟨none, 0, 0, [], rfl, Nat.le_refl _, Nat.zero_le _, rfl, Nat.zero_le _, by simp, by simp⟩
  · simp at hcs
    subst hcs
    have hlz : l ≤ zs.length := by split at hz <;> omega
    refine ⟨some a, l, c', zs.take l, rfl, hl, hm, by simp; omega, by omega, fun n hn => hwz n (List.mem_of_mem_take hn), fun h0 => ?_⟩
    obtain ⟨b, off, rfl, hc'⟩ := ints_at hcell (by omega)
    refine ⟨b, off, rfl, World.block_lt_of_cell? w _ (hc' 0 (by omega)), fun i hi => ?_⟩
    rw [hc' i (by omega)]
    simp [List.getD_eq_getElem?_getD, List.getElem?_take, hi]
theorem agg_strP {n : Nat} {t : TypeId} {c : Value} {y : DataW H × List MemPlace} (ht : P.underlying t = some .string) (h : DataW.trod enc P w base spare held n t [c] = some y) : ∃ s : ByteArray, c = .string s ∧ s.size ≤ maxLen := by
  obtain ⟨s, h1, _, h3⟩ := DataW.trod_string ht h
  exact ⟨s, by simpa using h1, h3⟩
theorem agg_boolP {n : Nat} {t : TypeId} {c : Value} {y : DataW H × List MemPlace} (ht : P.underlying t = some .bool) (h : DataW.trod enc P w base spare held n t [c] = some y) : ∃ b : Bool, c = .bool b := by
  obtain ⟨b, h1, _⟩ := DataW.trod_bool ht h
  exact ⟨b, by simpa using h1⟩
/-- Bytes in a field. -/
theorem agg_bytes {n : Nat} {t e : TypeId} {c : Value} {y : DataW H × List MemPlace} (ht : P.underlying t = some (.slice e)) (he : P.underlying e = some (.int .u8)) (hc : P.cellsOf e = 1) (h : DataW.trod enc P w base spare held n t [c] = some y) :
    ∃ (A : Option Addr) (cap : Nat) (zs : List Int), c = .slice A zs.length cap ∧ zs.length ≤ cap ∧ cap ≤ maxLen ∧ RdG (.int .u8) w A zs ∧ ∀ x ∈ zs, 0 ≤ x ∧ x < 256 := by
  obtain ⟨A, len, cap, zs, rfl, hlc, hcm, hz1, hz2, hz3, hz4⟩ := aggP_ints ht he hc h
  subst hz1
  refine ⟨A, cap, zs, rfl, hlc, hcm, fun h0 => ?_, fun x hx => ?_⟩
  · obtain ⟨b', off', e, hlt, hcc⟩ := hz4 (by omega)
    refine ⟨b', off', e, hlt, fun j v hj => ?_⟩
    have hj' : j < zs.length := (List.getElem?_eq_some_iff.1 hj).1
    rw [hcc j (by omega), List.getD_eq_getElem?_getD, hj]
    rfl
  · have := hz3 x hx
    have := wf_u8 this
    omega

theorem list_of {α : Type} {p : Nat → α → Prop} : ∀ n, (∀ i, i < n → ∃ x, p i x) → ∃ l : List α, l.length = n ∧ ∀ i x, l[i]? = some x → p i x
  | 0, _ => ⟨[], rfl, fun i x h => by simp at h⟩
  | n + 1, h => by
    obtain ⟨l, hl, hp⟩ := list_of n fun i hi => h i (by omega)
    obtain ⟨x, hx⟩ := h n (by omega)
    refine ⟨l ++ [x], by simp [hl], fun i y hy => ?_⟩
    rcases Nat.lt_or_ge i l.length with h1 | h1
    · rw [List.getElem?_append_left h1] at hy; exact hp i y hy
    · rw [List.getElem?_append_right h1] at hy
      have h2 : i - l.length = 0 := by
        rcases Nat.eq_zero_or_pos (i - l.length) with h2 | h2
        · exact h2
        · rw [List.getElem?_eq_none (by simp; omega)] at hy; cases hy
      rw [h2] at hy
      simp at hy
      subst hy
      have e : i = n := by omega
      rw [e]; exact hx
/-- A slice whose elements are opened by hel. -/
theorem open_rdX {α : Type} {cf : α → List Value} {ok : α → Prop} {t e : TypeId} {size : Nat} {v : Value} {d : DataW H} {p : List MemPlace} {r : Reach} {b0 : Nat} (ht : P.underlying t = some (.slice e)) (hC : P.cellsOf e = size) (h0 : 0 < size) (hcl : ∀ x, (cf x).length = size)
    (hel : ∀ (n : Nat) (l : List Value) (y : DataW H × List MemPlace), l.length = size → DataW.trod enc P w base spare held n e l = some y → ∃ x : α, l = cf x ∧ ok x)
    (hv : Value.okWide P w r b0 t v) (h : DataW.Trod enc P w base spare held t v d p) : ∃ (A : Option Addr) (l : List α) (cap : Nat), v = .slice A l.length cap ∧ l.length ≤ cap ∧ cap ≤ maxLen ∧ RdX cf w A l ∧ ∀ x ∈ l, ok x := by
  obtain ⟨a0, len, cap, rfl⟩ := okWide_slice ht hv
  obtain ⟨fuel, hf⟩ := h
  rcases open_slice ht hf with ⟨hcs, _⟩ | ⟨a, l, c, m, n, D, Pl, hcs, _, hlc, hm, hmm, _, hi⟩
  · simp [Value.cells] at hcs
    obtain ⟨rfl, rfl, rfl⟩ := hcs
    exact ⟨none, [], 0, rfl, Nat.le_refl _, Nat.zero_le _, rdX_nil, fun x hx => by cases hx⟩
  · simp [Value.cells] at hcs
    obtain ⟨rfl, rfl, rfl⟩ := hcs
    have hlm : len ≤ m := by rw [hmm]; split <;> omega
    obtain ⟨xs, hxl, hx⟩ := list_of (p := fun i (x : α) => ok x ∧ ∀ j u, (cf x)[j]? = some u → w.cell? (a.add (i * size + j)) = some u) len (fun i hi1 => by
      obtain ⟨cs', hc, ht'⟩ := hi i (by omega)
      obtain ⟨_, hcl', hat⟩ := World.cells?_some hc
      rw [hC] at hcl' hat
      obtain ⟨x, rfl, hok⟩ := hel _ _ _ hcl' ht'
      refine ⟨x, hok, fun j u hu => ?_⟩
      have hj : j < size := by have := (List.getElem?_eq_some_iff.1 hu).1; omega
      rw [← Go.Deep.add_add]
      exact (hat j hj).trans hu)
    subst hxl
    refine ⟨some a, xs, cap, rfl, hlc, hm, fun hl0 => ?_, fun x hx1 => ?_⟩
    · have h00 : ∃ u, w.cell? (a.add 0) = some u := by
        have hx0 := hx 0 (xs[0]'hl0) (List.getElem?_eq_getElem hl0)
        have h1 : (cf (xs[0]'hl0))[0]? = some ((cf (xs[0]'hl0))[0]'(by rw [hcl]; exact h0)) := List.getElem?_eq_getElem _
        exact ⟨_, by simpa using hx0.2 0 _ h1⟩
      obtain ⟨u0, hu0⟩ := h00
      have hadd0 : a.add 0 = a := by unfold Addr.add; simp
      rw [hadd0] at hu0
      have hs : a.spot = none := by
        unfold World.cell? at hu0
        split at hu0
        · split at hu0
          · cases hu0
          · rename_i h1; simpa using h1
        · cases hu0
      obtain ⟨b, off, sp⟩ := a
      simp at hs
      subst hs
      refine ⟨b, off, rfl, World.block_lt_of_cell? w _ hu0, fun j u hu => ?_⟩
      have key : ∀ (l : List α) (j : Nat) (u : Value), (l.flatMap cf)[j]? = some u → ∃ i x k, l[i]? = some x ∧ (cf x)[k]? = some u ∧ j = i * size + k := by
        intro l
        induction l with
        | nil => intro j u h; simp at h
        | cons y ys ih =>
          intro j u h
          rw [List.flatMap_cons] at h
          rcases Nat.lt_or_ge j (cf y).length with h1 | h1
          · rw [List.getElem?_append_left h1] at h
            exact ⟨0, y, j, rfl, h, by simp⟩
          · rw [List.getElem?_append_right h1] at h
            obtain ⟨i, x, k, h2, h3, h4⟩ := ih _ _ h
            refine ⟨i + 1, x, k, by simpa using h2, h3, ?_⟩
            rw [hcl] at h1 h4
            rw [Nat.succ_mul]; omega
      obtain ⟨i, x, k, h2, h3, rfl⟩ := key xs j u hu
      have := (hx i x h2).2 k u h3
      rw [Addr.add_mid] at this
      exact this
    · obtain ⟨i, hi1⟩ := List.mem_iff_getElem?.1 hx1
      exact (hx i x hi1).1
end
end Go.Proofs.YtnfcdbjckdhieaaGreat

namespace Go.Proofs.YtnfcdbjckdhieaaGreat
set_option linter.all false
open Go.ChangeShapes Go.WideShapes Go.ChangeAt Go.RowKit Go.Deep

/-- What the walk of a law is handed: the arguments read as data, and how much each takes. -/
def LawWalkS (P : Program) (f : FuncId) (fn : Func) : Prop :=
  ∀ (H : Type) (enc : TypeId × Value → H) (W : World) (base : Nat) (args : Array Value) (ds : List (DataW H)) (ps : List MemPlace),
    (∀ (j : Nat) t v, fn.params[j]? = some t → args[j]? = some v → Value.okWide P W .any base t v) →
    DataW.TrodAll enc P W 0 (fun _ => true) true fn.params.toList args.toList ds ps →
    (DataW.weightsEach P fn.params.toList ds).all (· ≤ reachBytes) = true →
    Calls P f args W fun e W' => e = .returned (.bool true) ∧ Below W.heap.size W W'

theorem law_liftedS {C : Checked} {tb : TypeId} (own : ownKnob C.prog.godebug = none) (laidOut : laidOutB C.prog = true) (hb : C.prog.underlying tb = some .bool) (f : FuncId) (fn : Func) (s : ChangeSpec)
    (hfn : C.prog.funcs[f]? = some fn) (noInit : C.prog.inits.idxOf? f = none) (hres : fn.resultTypes = #[tb])
    (hread : readsAll C.prog fn.params.toList = true) (hv : s.vars = [])
    (hs : ∀ (H : Type) (ds : List (DataW H)), ds.length = fn.params.size → s.fn H ds = { results := [.lit (.bool true)], args := ds })
    (walk : LawWalkS C.prog f fn) (os : Os) (started : os.Started) (H : Type) (enc : TypeId × Value → H)
    (witness : ∃ (w : World) (tape : Tape) (i : Input), w.os = os ∧ (w.forCall tape i).Shaped C.prog ∧ i.vars = [] ∧ Input.okWide C.prog (w.forCall tape i) .any w.heap.size f i ∧
      s.pre6 enc C.prog fn [] false (w.forCall tape i).memory i.args ∧ Assume.holds {} C.prog (lone (Frame.enter C.prog f i.args .normal) [] (w.forCall tape i))) :
    ReturnsInHanded {} C os f .any (s.pre6 enc C.prog fn [] false) (s.post enc C.prog fn false true false false) := by
  refine returnsInHanded_of_change_sized own started noInit hfn witness ?_
  intro W base args ds gs before hval hW hcnd hsz _
  have hW' := hW
  obtain ⟨p, q, hA, hV, rfl, hfz, hnd⟩ := hW
  have hty : s.plain.varTypes C.prog = [] := by simp [ChangeSpec.plain, hv, DataSpec.varTypes]
  rw [hv] at hV
  obtain ⟨rfl, rfl⟩ := trodVars_none hV
  rw [hty, List.append_nil, List.append_nil] at hsz
  have hlt := DataW.TrodAll.lt hA
  have hlen : ds.length = fn.params.size := by have := trodAll_len _ _ _ _ hA; simpa using this
  have hfnc := hs H ds hlen
  refine (walk H enc W base args ds p hval hA hsz).mono fun e W' ⟨he, bel⟩ => ?_
  subst he
  refine ⟨_, rfl, ds, [], p ++ [], [], p, [], hW', ?_, ?_, ?_, bel.frame _, fun h => by cases h⟩
  · rw [hres, List.append_nil, hfnc]
    exact trodAll_mk1 (shut_bool hb _)
  · rw [List.append_nil, hfnc]
    exact trodAll_stays laidOut bel _ _ _ _ hread hA hlt
  · rw [hv, List.append_nil, hfnc]
    rfl

section
variable {H : Type} {enc : TypeId × Value → H} {P : Program} {w : World} {base : Nat} {spare : Nat → Bool} {held : Bool}
theorem agg_rdX {α : Type} {cf : α → List Value} {ok : α → Prop} {t e : TypeId} {size : Nat} {n0 : Nat} {v : Value} {y0 : DataW H × List MemPlace} (ht : P.underlying t = some (.slice e)) (hC : P.cellsOf e = size) (h0 : 0 < size) (hcl : ∀ x, (cf x).length = size)
    (hel : ∀ (n : Nat) (l : List Value) (y : DataW H × List MemPlace), l.length = size → DataW.trod enc P w base spare held n e l = some y → ∃ x : α, l = cf x ∧ ok x)
    (h : DataW.trod enc P w base spare held n0 t [v] = some y0) : ∃ (A : Option Addr) (l : List α) (cap : Nat), v = .slice A l.length cap ∧ l.length ≤ cap ∧ cap ≤ maxLen ∧ RdX cf w A l ∧ ∀ x ∈ l, ok x := by
  have hf := h
  rcases open_slice ht hf with ⟨hcs, _⟩ | ⟨a, len, cap, m, n, D, Pl, hcs, _, hlc, hm, hmm, _, hi⟩
  · simp at hcs
    subst hcs
    exact ⟨none, [], 0, rfl, Nat.le_refl _, Nat.zero_le _, rdX_nil, fun x hx => by cases hx⟩
  · simp at hcs
    subst hcs
    have hlm : len ≤ m := by rw [hmm]; split <;> omega
    obtain ⟨xs, hxl, hx⟩ := list_of (p := fun i (x : α) => ok x ∧ ∀ j u, (cf x)[j]? = some u → w.cell? (a.add (i * size + j)) = some u) len (fun i hi1 => by
      obtain ⟨cs', hc, ht'⟩ := hi i (by omega)
      obtain ⟨_, hcl', hat⟩ := World.cells?_some hc
      rw [hC] at hcl' hat
      obtain ⟨x, rfl, hok⟩ := hel _ _ _ hcl' ht'
      refine ⟨x, hok, fun j u hu => ?_⟩
      have hj : j < size := by have := (List.getElem?_eq_some_iff.1 hu).1; omega
      rw [← Go.Deep.add_add]
      exact (hat j hj).trans hu)
    subst hxl
    refine ⟨some a, xs, cap, rfl, hlc, hm, fun hl0 => ?_, fun x hx1 => ?_⟩
    · have h00 : ∃ u, w.cell? (a.add 0) = some u := by
        have hx0 := hx 0 (xs[0]'hl0) (List.getElem?_eq_getElem hl0)
        have h1 : (cf (xs[0]'hl0))[0]? = some ((cf (xs[0]'hl0))[0]'(by rw [hcl]; exact h0)) := List.getElem?_eq_getElem _
        exact ⟨_, by simpa using hx0.2 0 _ h1⟩
      obtain ⟨u0, hu0⟩ := h00
      have hadd0 : a.add 0 = a := by unfold Addr.add; simp
      rw [hadd0] at hu0
      have hs : a.spot = none := by
        unfold World.cell? at hu0
        split at hu0
        · split at hu0
          · cases hu0
          · rename_i h1; simpa using h1
        · cases hu0
      obtain ⟨b, off, sp⟩ := a
      simp at hs
      subst hs
      refine ⟨b, off, rfl, World.block_lt_of_cell? w _ hu0, fun j u hu => ?_⟩
      have key : ∀ (l : List α) (j : Nat) (u : Value), (l.flatMap cf)[j]? = some u → ∃ i x k, l[i]? = some x ∧ (cf x)[k]? = some u ∧ j = i * size + k := by
        intro l
        induction l with
        | nil => intro j u h; simp at h
        | cons y ys ih =>
          intro j u h
          rw [List.flatMap_cons] at h
          rcases Nat.lt_or_ge j (cf y).length with h1 | h1
          · rw [List.getElem?_append_left h1] at h
            exact ⟨0, y, j, rfl, h, by simp⟩
          · rw [List.getElem?_append_right h1] at h
            obtain ⟨i, x, k, h2, h3, h4⟩ := ih _ _ h
            refine ⟨i + 1, x, k, by simpa using h2, h3, ?_⟩
            rw [hcl] at h1 h4
            rw [Nat.succ_mul]; omega
      obtain ⟨i, x, k, h2, h3, rfl⟩ := key xs j u hu
      have := (hx i x h2).2 k u h3
      rw [Addr.add_mid] at this
      exact this
    · obtain ⟨i, hi1⟩ := List.mem_iff_getElem?.1 hx1
      exact (hx i x hi1).1
end
end Go.Proofs.YtnfcdbjckdhieaaGreat

namespace Go.Proofs.YtnfcdbjckdhieaaGreat
set_option linter.all false
open Go.ChangeShapes Go.WideShapes Go.ChangeAt Go.RowKit Go.Deep

section
variable {H : Type} {enc : TypeId × Value → H} {P : Program} {w : World} {base : Nat} {spare : Nat → Bool} {held : Bool} {R : Nat}
/-- Cells read as data, each slice of which is light. -/
def TrodW (enc : TypeId × Value → H) (P : Program) (w : World) (base : Nat) (spare : Nat → Bool) (held : Bool) (R n : Nat) (t : TypeId) (l : List Value) : Prop :=
  ∃ y, DataW.trod enc P w base spare held n t l = some y ∧ ∀ k ∈ y.1.weights P t, k ≤ R
theorem wAll_mem {e : TypeId} : ∀ {ds : List (DataW H)} {d : DataW H}, d ∈ ds → ∀ n ∈ d.weights P e, n ∈ DataW.weightsAll P e ds
  | [], _, h, _, _ => by cases h
  | x :: r, d, h, n, hn => by
    simp only [DataW.weightsAll, List.mem_append]
    rcases List.mem_cons.1 h with rfl | h
    · exact .inl hn
    · exact .inr (wAll_mem h n hn)
def FieldsW (enc : TypeId × Value → H) (P : Program) (w : World) (base : Nat) (spare : Nat → Bool) (held : Bool) (R n : Nat) (fs : Array Field) (l : List Value) : Prop :=
  ∀ (j : Nat) (f : Field), fs[j]? = some f → TrodW enc P w base spare held R n f.type ((l.drop f.offset).take (P.cellsOf f.type))
theorem TrodW.fields {n : Nat} {t : TypeId} {fs : Array Field} {l : List Value} (hs : P.underlying t = some (.struct fs)) (h : TrodW enc P w base spare held R n t l) : ∃ n', FieldsW enc P w base spare held R n' fs l := by
  obtain ⟨y, h, hW⟩ := h
  obtain ⟨ys, n', _, hx, _, hyl, hg⟩ := DataW.trod_struct hs h
  refine ⟨n', fun j f hj => ?_⟩
  have hjl : j < fs.size := (Array.getElem?_eq_some_iff.1 hj).1
  have hjy : j < ys.length := by omega
  refine ⟨ys[j], (hg j f hj).trans (List.getElem?_eq_getElem hjy), fun q hq => hW q ?_⟩
  subst hx
  simp only [DataW.weights, hs]
  exact DataW.weights_mem_each (j := j) (t := f.type) (d := (ys[j]).1) (by simp [hj]) (by simp [hjy]) q hq
theorem FieldsW.at_ {n : Nat} {fs : Array Field} {l l' : List Value} (h : FieldsW enc P w base spare held R n fs l) (j : Nat) (T : TypeId) (off k : Nat) (f : Field) (hj : fs[j]? = some f) (hT : f.type = T) (ho : f.offset = off) (hk : P.cellsOf T = k) (hl : (l.drop off).take k = l') : TrodW enc P w base spare held R n T l' := by
  have hy := h j f hj
  rw [hT, ho, hk, hl] at hy
  exact hy
theorem TrodW.int {k : IntKind} {n : Nat} {t : TypeId} {c : Value} (ht : P.underlying t = some (.int k)) (h : TrodW enc P w base spare held R n t [c]) : ∃ a, c = .int k a ∧ (Lit.int k a).wf = true := by
  obtain ⟨y, h, _⟩ := h
  exact agg_int ht h
theorem TrodW.bool {n : Nat} {t : TypeId} {c : Value} (ht : P.underlying t = some .bool) (h : TrodW enc P w base spare held R n t [c]) : ∃ b : Bool, c = .bool b := by
  obtain ⟨y, h, _⟩ := h
  exact agg_boolP ht h
theorem TrodW.str {n : Nat} {t : TypeId} {c : Value} (ht : P.underlying t = some .string) (h : TrodW enc P w base spare held R n t [c]) : ∃ s : ByteArray, c = .string s ∧ s.size ≤ maxLen ∧ s.size ≤ R := by
  obtain ⟨y, h, hW⟩ := h
  obtain ⟨s, h1, h2, h3⟩ := DataW.trod_string ht h
  refine ⟨s, by simpa using h1, h3, ?_⟩
  subst h2
  have := hW s.data.toList.length (by simp [DataW.weights])
  have e : s.data.toList.length = s.size := by rw [Array.length_toList]; rfl
  rw [e] at this
  exact this
theorem TrodW.arr {n m : Nat} {t e : TypeId} {l : List Value} (ht : P.underlying t = some (.array m e)) (h : TrodW enc P w base spare held R n t l) : ∃ n', ∀ i, i < m → TrodW enc P w base spare held R n' e ((l.drop (i * P.cellsOf e)).take (P.cellsOf e)) := by
  obtain ⟨y, h, hW⟩ := h
  obtain ⟨xs, n', _, hx, _, hxl, hg⟩ := DataW.trod_array ht h
  refine ⟨n', fun i hi => ?_⟩
  have hil : i < xs.length := by omega
  refine ⟨xs[i], (hg i hi).trans (List.getElem?_eq_getElem hil), fun q hq => hW q ?_⟩
  subst hx
  simp only [DataW.weights, ht]
  exact wAll_mem (List.mem_map.2 ⟨xs[i], List.getElem_mem hil, rfl⟩) q hq
theorem TrodW.slice {α : Type} {cf : α → List Value} {ok : α → Prop} {t e : TypeId} {size : Nat} {n0 : Nat} {v : Value} (ht : P.underlying t = some (.slice e)) (hC : P.cellsOf e = size) (h0 : 0 < size) (hcl : ∀ x, (cf x).length = size)
    (hel : ∀ (n : Nat) (l : List Value), l.length = size → TrodW enc P w base spare held R n e l → ∃ x : α, l = cf x ∧ ok x)
    (h : TrodW enc P w base spare held R n0 t [v]) : ∃ (A : Option Addr) (l : List α) (cap : Nat), v = .slice A l.length cap ∧ l.length ≤ cap ∧ cap ≤ maxLen ∧ RdX cf w A l ∧ (∀ x ∈ l, ok x) ∧ l.length * P.bytesOf e ≤ R := by
  obtain ⟨y0, h, hW⟩ := h
  rcases open_slice ht h with ⟨hcs, _⟩ | ⟨a, len, cap, m, n, D, Pl, hcs, _, hlc, hm, hmm, hx, hi⟩
  · simp at hcs
    subst hcs
    exact ⟨none, [], 0, rfl, Nat.le_refl _, Nat.zero_le _, rdX_nil, (fun x hx => by cases hx), by simp⟩
  · simp at hcs
    subst hcs
    have hlm : len ≤ m := by rw [hmm]; split <;> omega
    subst hx
    have hlw : len * P.bytesOf e ≤ R := by
      have h1 := hW (((List.range len).map D).length * P.bytesOf e + ((List.range (m - len)).map fun j => D (len + j)).length * P.bytesOf e) (by
        simp only [DataW.weights, ht]
        rw [← Nat.add_mul]
        exact List.mem_cons_self)
      simp only [List.length_map, List.length_range] at h1
      exact Nat.le_trans (Nat.le_add_right _ _) h1
    obtain ⟨xs, hxl, hx⟩ := list_of (p := fun i (x : α) => ok x ∧ ∀ j u, (cf x)[j]? = some u → w.cell? (a.add (i * size + j)) = some u) len (fun i hi1 => by
      obtain ⟨cs', hc, ht'⟩ := hi i (by omega)
      obtain ⟨_, hcl', hat⟩ := World.cells?_some hc
      rw [hC] at hcl' hat
      obtain ⟨x, rfl, hok⟩ := hel _ _ hcl' ⟨_, ht', fun k hk => hW k (by
        simp only [DataW.weights, ht, List.mem_cons, List.mem_append]
        exact .inr (.inl (wAll_mem (List.mem_map.2 ⟨i, List.mem_range.2 hi1, rfl⟩) k hk)))⟩
      refine ⟨x, hok, fun j u hu => ?_⟩
      have hj : j < size := by have := (List.getElem?_eq_some_iff.1 hu).1; omega
      rw [← Go.Deep.add_add]
      exact (hat j hj).trans hu)
    subst hxl
    refine ⟨some a, xs, cap, rfl, hlc, hm, fun hl0 => ?_, fun x hx1 => ?_, hlw⟩
    · have h00 : ∃ u, w.cell? (a.add 0) = some u := by
        have hx0 := hx 0 (xs[0]'hl0) (List.getElem?_eq_getElem hl0)
        have h1 : (cf (xs[0]'hl0))[0]? = some ((cf (xs[0]'hl0))[0]'(by rw [hcl]; exact h0)) := List.getElem?_eq_getElem _
        exact ⟨_, by simpa using hx0.2 0 _ h1⟩
      obtain ⟨u0, hu0⟩ := h00
      have hadd0 : a.add 0 = a := by unfold Addr.add; simp
      rw [hadd0] at hu0
      have hs : a.spot = none := by
        unfold World.cell? at hu0
        split at hu0
        · split at hu0
          · cases hu0
          · rename_i h1; simpa using h1
        · cases hu0
      obtain ⟨b, off, sp⟩ := a
      simp at hs
      subst hs
      refine ⟨b, off, rfl, World.block_lt_of_cell? w _ hu0, fun j u hu => ?_⟩
      have key : ∀ (l : List α) (j : Nat) (u : Value), (l.flatMap cf)[j]? = some u → ∃ i x k, l[i]? = some x ∧ (cf x)[k]? = some u ∧ j = i * size + k := by
        intro l
        induction l with
        | nil => intro j u h; simp at h
        | cons y ys ih =>
          intro j u h
          rw [List.flatMap_cons] at h
          rcases Nat.lt_or_ge j (cf y).length with h1 | h1
          · rw [List.getElem?_append_left h1] at h
            exact ⟨0, y, j, rfl, h, by simp⟩
          · rw [List.getElem?_append_right h1] at h
            obtain ⟨i, x, k, h2, h3, h4⟩ := ih _ _ h
            refine ⟨i + 1, x, k, by simpa using h2, h3, ?_⟩
            rw [hcl] at h1 h4
            rw [Nat.succ_mul]; omega
      obtain ⟨i, x, k, h2, h3, rfl⟩ := key xs j u hu
      have := (hx i x h2).2 k u h3
      rw [Addr.add_mid] at this
      exact this
    · obtain ⟨i, hi1⟩ := List.mem_iff_getElem?.1 hx1
      exact (hx i x hi1).1
/-- A struct that is handed in. -/
theorem open_structW {r : Reach} {b0 : Nat} {t : TypeId} {fs : Array Field} {v : Value} {d : DataW H} {p : List MemPlace} {k : Nat} (hs : P.underlying t = some (.struct fs)) (hC : P.cellsOf t = k) (hW : ∀ q ∈ d.weights P t, q ≤ R)
    (hv : Value.okWide P w r b0 t v) (h : DataW.Trod enc P w base spare held t v d p) : ∃ (l : List Value) (n : Nat), v = .agg l.toArray ∧ l.length = k ∧ TrodW enc P w base spare held R n t l := by
  obtain ⟨cs, rfl, hsz⟩ := okWide_struct hs hv
  obtain ⟨l⟩ := cs
  obtain ⟨fuel, hf⟩ := h
  have hcs : (Value.agg ⟨l⟩).cells.toList = l := by simp [Value.cells]
  rw [hcs] at hf
  exact ⟨l, fuel, rfl, by simpa using hsz.trans hC, ⟨_, hf, hW⟩⟩
end
end Go.Proofs.YtnfcdbjckdhieaaGreat

namespace Go.Proofs.YtnfcdbjckdhieaaGreat
set_option linter.all false

section
variable {P : Program} {ops : Array Oper} {md : Region.Mode} {w : World}

/-- Each head that has not been taken is waited for by a later head, or by the chain's first. -/
def sinkL (md : Region.Mode) (ops : Array Oper) (l0 : Array Bool) (ts : List Nat) : Bool :=
  (List.range ops.size).all fun i => ts.contains i || l0.getD i true || (List.range ops.size).any fun j => decide (i < j) && (!ts.contains j || ts.head? == some j) && Region.waitsFor md ops j i
/-- Each of the chain waits for the one ahead of it. -/
def chainL (md : Region.Mode) (ops : Array Oper) : List Nat → Bool
  | t :: u :: r => Region.waitsFor md ops u t && chainL md ops (u :: r)
  | _ => true
structure InvL (md : Region.Mode) (ops : Array Oper) (l0 : Array Bool) (ts : List Nat) (listed : Array Bool) : Prop where
  size : listed.size = ops.size
  closed : ∀ j oj, ops[j]? = some oj → listed.getD j false = true → ∀ e ∈ oj.after, Region.binds md e = true → listed.getD e.on false = true
  tail : ∀ t ∈ ts, listed.getD t true = false
  above : ∀ i, l0.getD i true = true → i < ops.size → listed.getD i false = true

theorem InvL.set {l0 : Array Bool} {ts : List Nat} {i : Nat} {listed : Array Bool} (inv : InvL md ops l0 ts listed) (hi : i ∈ Region.ready md ops listed) (hin : ts.contains i = false) : InvL md ops l0 ts (listed.setIfInBounds i true) := by
  obtain ⟨_, oi, hoi, hall⟩ := mem_ready.1 hi
  refine ⟨by simp [inv.size], fun j oj hj hl e he hb => ?_, fun t ht => ?_, fun j hj hjl => getD_set_true (inv.above j hj hjl)⟩
  · by_cases hij : i = j
    · subst hij
      obtain rfl : oj = oi := Option.some.inj (hj.symm.trans hoi)
      exact getD_set_true (hall e he hb)
    · rw [getD_set_ne false hij] at hl
      exact getD_set_true (inv.closed j oj hj hl e he hb)
  · have : i ≠ t := fun h => by subst h; simp at hin; exact hin ht
    rw [getD_set_ne true this]; exact inv.tail t ht

theorem chainL_spec {ts : List Nat} (h : chainL md ops ts = true) : ∀ t ∈ ts, ts.head? = some t ∨ ∃ u ∈ ts, Region.waitsFor md ops t u = true := by
  induction ts with
  | nil => intro t ht; cases ht
  | cons a r ih =>
    cases r with
    | nil => intro t ht; simp at ht; subst ht; exact .inl rfl
    | cons b r =>
      simp only [chainL, Bool.and_eq_true] at h
      intro t ht
      rcases List.mem_cons.1 ht with rfl | ht
      · exact .inl rfl
      · rcases ih h.2 t ht with e | ⟨u, hu, hw⟩
        · simp at e; subst e
          exact .inr ⟨a, List.mem_cons_self, h.1⟩
        · exact .inr ⟨u, List.mem_cons_of_mem _ hu, hw⟩

theorem tailL_waits {l0 : Array Bool} {ts : List Nat} {listed : Array Bool} (hs : sinkL md ops l0 ts = true) (hc : chainL md ops ts = true) (inv : InvL md ops l0 ts listed) :
    ∀ (d i : Nat), ops.size - i = d → i < ops.size → ts.contains i = false → listed.getD i true = false → ∀ t ∈ ts, t ∉ Region.ready md ops listed := by
  intro d
  induction d using Nat.strongRecOn with
  | _ d ih =>
    intro i hd hi hin hun t ht hr
    obtain ⟨_, ot, hot, hall⟩ := mem_ready.1 hr
    rcases chainL_spec hc t ht with hh | ⟨u, hu, hw⟩
    · have h1 := List.all_eq_true.1 hs i (List.mem_range.2 hi)
      simp only [Bool.or_eq_true, hin, Bool.false_eq_true, false_or] at h1
      rcases h1 with h1 | h1
      · have := inv.above i h1 hi
        rw [getD_both hun] at this
        cases this
      · obtain ⟨j, hj, hj2⟩ := List.any_eq_true.1 h1
        have hjl := List.mem_range.1 hj
        simp only [Bool.and_eq_true, decide_eq_true_eq, Bool.or_eq_true, Bool.not_eq_true', beq_iff_eq] at hj2
        obtain ⟨⟨hij, hk⟩, hw⟩ := hj2
        obtain ⟨oj, hoj, e, he, hb, hon⟩ := Region.waitsFor_spec hw
        by_cases hjt : j = t
        · subst hjt
          obtain rfl : oj = ot := Option.some.inj (hoj.symm.trans hot)
          have h2 := hall e he hb
          rw [hon, getD_both hun] at h2
          cases h2
        · rcases hk with hk | hk
          · cases hl : listed.getD j false with
            | true =>
              have h2 := inv.closed j oj hoj hl e he hb
              rw [hon, getD_both hun] at h2
              cases h2
            | false => exact ih (ops.size - j) (by omega) j rfl hjl hk (getD_in (by rw [inv.size]; exact hjl) hl) t ht hr
          · rw [hh] at hk
            exact hjt (Option.some.inj hk).symm
    · obtain ⟨o', ho', e, he, hb, hon⟩ := Region.waitsFor_spec hw
      obtain rfl : o' = ot := Option.some.inj (ho'.symm.trans hot)
      have h2 := hall e he hb
      rw [hon, getD_both (inv.tail u hu)] at h2
      cases h2

/-- Every way through the heads. -/
def wpAnyN (P : Program) (md : Region.Mode) (ops : Array Oper) (w : World) (ts : List Nat) (L : Array Bool → Act → Prop) : Nat → Array Bool → Act → Prop
  | 0, listed, a => L listed a
  | f + 1, listed, a => Region.ready md ops listed ≠ [] ∧ ∀ i ∈ Region.ready md ops listed, ts.contains i = false ∧ stOp P ops w i (wpAnyN P md ops w ts L f (listed.setIfInBounds i true)) a

theorem wpAny_of_N {ts : List Nat} {g : Nat} {L : Array Bool → Act → Prop} {Q' : Exit → Act → World → Prop} (hL : ∀ listed a, L listed a → wpAny P md ops Q' g listed a w) :
    ∀ (f : Nat) (listed : Array Bool) (a : Act), wpAnyN P md ops w ts L f listed a → wpAny P md ops Q' (f + g) listed a w
  | 0, listed, a, h => by rw [Nat.zero_add]; exact hL _ _ h
  | f + 1, listed, a, h => by
    rw [show f + 1 + g = (f + g) + 1 by omega]
    exact ⟨fun h0 => absurd h0 h.1, fun i hi => wpOp_of_stOp (fun a' h' => wpAny_of_N hL f _ a' h') (h.2 i hi).2⟩

theorem wpAnyN_first {l0 : Array Bool} {ts : List Nat} {i : Nat} {oi : Oper} {v : Value} {L : Array Bool → Act → Prop} (hi : ops[i]? = some oi) (hsel : ∀ (j : Nat) (o : Oper) cs b, ops[j]? = some o → o.op ≠ .select cs b)
    (hs : sinkL md ops l0 ts = true) (hc : chainL md ops ts = true) (hin : ts.contains i = false)
    (hdone : ∀ listed a, L listed a → ∀ j ∈ Region.ready md ops listed, ts.contains j = true) :
    ∀ (f : Nat) (listed : Array Bool) (a : Act), InvL md ops l0 ts listed →
      (∀ j oj, ops[j]? = some oj → j ≠ i → listed.getD j true = false → (∀ e ∈ oj.after, Region.binds md e = true → e.on ≠ i) → oi.apart ops oj = true) →
      i ∈ Region.ready md ops listed → YieldsAt P ops w oi v a →
      wpAnyN P md ops w ts L f (listed.setIfInBounds i true) (a.put oi.dst v) → wpAnyN P md ops w ts L (f + 1) listed a := by
  have hil : i < ops.size := (Array.getElem?_eq_some_iff.1 hi).1
  have head : ∀ (listed : Array Bool), InvL md ops l0 ts listed → listed.getD i true = false → ∀ j ∈ Region.ready md ops listed, ts.contains j = false := fun listed inv hun j hj => by
    cases h : ts.contains j with
    | false => rfl
    | true => exact absurd hj (tailL_waits hs hc inv _ i rfl hil hin hun j (by simpa using h))
  intro f
  induction f with
  | zero =>
    intro listed a inv _ hr hy H
    have hun := (mem_ready.1 hr).1
    refine ⟨fun h => (by rw [h] at hr; cases hr), fun j hj => ⟨head listed inv hun j hj, ?_⟩⟩
    by_cases hji : j = i
    · subst hji; exact hy.stOp hi H
    · have h1 := hdone _ _ H j (ready_mono hj hji)
      rw [head listed inv hun j hj] at h1
      cases h1
  | succ f ih =>
    intro listed a inv hfree hr hy H
    have hun := (mem_ready.1 hr).1
    refine ⟨fun h => (by rw [h] at hr; cases hr), fun j hj => ⟨head listed inv hun j hj, ?_⟩⟩
    by_cases hji : j = i
    · subst hji; exact hy.stOp hi H
    · have h1 := (H.2 j (ready_mono hj hji)).2
      obtain ⟨hjun, oj, hoj, hall⟩ := mem_ready.1 hj
      have hnot : ∀ e ∈ oj.after, Region.binds md e = true → e.on ≠ i := fun e he hb heq => by
        have h1 := hall e he hb
        rw [heq, getD_both hun] at h1
        cases h1
      have h2 := stOp_put hoj (hfree j oj hoj hji hjun hnot) (fun cs b => hsel i oi cs b hi) (fun cs b => hsel j oj cs b hoj) hy h1
      refine stOp_mono (fun a' h3 => ih (listed.setIfInBounds j true) a' (inv.set hj (head listed inv hun j hj)) (fun k ok hk hki hun' hno => ?_) (ready_mono hr (Ne.symm hji)) h3.1 ?_) h2
      · refine hfree k ok hk hki ?_ hno
        by_cases hjk : j = k
        · subst hjk; exact hjun
        · rw [getD_set_ne true hjk] at hun'; exact hun'
      · rw [Array.setIfInBounds_comm _ _ hji]
        exact h3.2

/-- The chain, one behind the other. -/
def seqL (md : Region.Mode) (ops : Array Oper) : List Nat → Array Bool → Bool
  | [], listed => (Region.ready md ops listed).isEmpty
  | t :: r, listed => decide (Region.ready md ops listed = [t]) && seqL md ops r (listed.setIfInBounds t true)
def pick (ops : Array Oper) (is : List Nat) : List Oper := is.filterMap fun i => ops[i]?
theorem wpAny_of_seqL {Q' : Exit → Act → World → Prop} : ∀ (ts : List Nat) (listed : Array Bool) (a : Act) (w : World), seqL md ops ts listed = true → wpList P ops Q' (pick ops ts) a w → wpAny P md ops Q' ts.length listed a w
  | [], listed, a, w, hB, h => ⟨by simpa [seqL] using hB, h⟩
  | t :: r, listed, a, w, hB, h => by
    simp only [seqL, Bool.and_eq_true, decide_eq_true_eq] at hB
    refine ⟨fun h1 => (by rw [hB.1] at h1; cases h1), fun i hi => ?_⟩
    rw [hB.1] at hi
    obtain rfl : i = t := by simpa using hi
    have hr : i ∈ Region.ready md ops listed := by rw [hB.1]; simp
    obtain ⟨_, o, ho, _⟩ := mem_ready.1 hr
    have hp : pick ops (i :: r) = o :: pick ops r := by simp [pick, ho]
    rw [hp] at h
    have hw : wpOp P ops Q' i (wpList P ops Q' (pick ops r)) a w := by unfold wpOp; simp only [ho]; exact h
    exact wpOp_mono (fun a' w' h' => wpAny_of_seqL r _ a' w' hB.2 h') hw

/-- The heads in one order, then the chain. -/
def lexL (md : Region.Mode) (ops : Array Oper) (ts : List Nat) : List Nat → Array Bool → Bool
  | [], listed => seqL md ops ts listed
  | i :: r, listed => (Region.ready md ops listed).contains i && !ts.contains i && Region.free md ops listed i && lexL md ops ts r (listed.setIfInBounds i true)
theorem seqL_ready {ts : List Nat} {listed : Array Bool} (h : seqL md ops ts listed = true) : ∀ j ∈ Region.ready md ops listed, ts.contains j = true := by
  cases ts with
  | nil => intro j hj; simp only [seqL, List.isEmpty_iff] at h; rw [h] at hj; cases hj
  | cons t r =>
    intro j hj
    simp only [seqL, Bool.and_eq_true, decide_eq_true_eq] at h
    rw [h.1] at hj
    obtain rfl : j = t := by simpa using hj
    simp
theorem wpAnyN_lex {l0 : Array Bool} {ts : List Nat} {Lq : Act → Prop} (hsel : Region.noSelect ops = true) (hs : sinkL md ops l0 ts = true) (hc : chainL md ops ts = true) :
    ∀ (hd : List Nat) (listed : Array Bool) (a : Act), InvL md ops l0 ts listed → lexL md ops ts hd listed = true → wpStill P ops w Lq (pick ops hd) a →
    wpAnyN P md ops w ts (fun listed' a' => seqL md ops ts listed' = true ∧ Lq a') hd.length listed a
  | [], listed, a, _, hB, h => ⟨hB, h⟩
  | i :: r, listed, a, inv, hB, h => by
    simp only [lexL, Bool.and_eq_true, Bool.not_eq_true'] at hB
    obtain ⟨⟨⟨hr, hin⟩, hf⟩, hB'⟩ := hB
    have hr' : i ∈ Region.ready md ops listed := by simpa using hr
    obtain ⟨_, o, h0, _⟩ := mem_ready.1 hr'
    have hp : pick ops (i :: r) = o :: pick ops r := by simp [pick, h0]
    rw [hp] at h
    have hst : stOp P ops w i (wpStill P ops w Lq (pick ops r)) a := by unfold stOp; simp only [h0]; exact h
    obtain ⟨v, hy, hK⟩ := yieldsAt_of_stOp h0 hst
    exact wpAnyN_first h0 (Region.noSelect_spec hsel) hs hc hin (fun listed' a' hL => seqL_ready hL.1) r.length listed a inv (Region.free_spec h0 hf) hr' hy
      (wpAnyN_lex hsel hs hc r _ _ (inv.set hr' hin) hB' hK)

def closedL (md : Region.Mode) (ops : Array Oper) (listed : Array Bool) : Bool :=
  (List.range ops.size).all fun j => !listed.getD j false || match ops[j]? with
    | some oj => oj.after.all fun e => !Region.binds md e || listed.getD e.on false
    | none => true
def mixL (md : Region.Mode) (ops : Array Oper) (listed : Array Bool) (hd ts : List Nat) : Bool :=
  Region.noSelect ops && decide (listed.size = ops.size) && closedL md ops listed && (ts.all fun t => !listed.getD t true) && sinkL md ops listed ts && chainL md ops ts && lexL md ops ts hd listed

/-- In the midst of a region that draws: the heads hd in one order, then the chain ts. -/
theorem wpAny_mix {Q' : Exit → Act → World → Prop} {fuel : Nat} {listed : Array Bool} {a : Act} (hd ts : List Nat) (hf : fuel = hd.length + ts.length) (hB : mixL md ops listed hd ts = true)
    (h : wpStill P ops w (fun a' => wpList P ops Q' (pick ops ts) a' w) (pick ops hd) a) : wpAny P md ops Q' fuel listed a w := by
  subst hf
  simp only [mixL, Bool.and_eq_true, decide_eq_true_eq] at hB
  obtain ⟨⟨⟨⟨⟨⟨hsel, hsz⟩, hcl⟩, htl⟩, hs⟩, hc⟩, hlex⟩ := hB
  have inv : InvL md ops listed ts listed := by
    refine ⟨hsz, fun j oj hj hl e he hb => ?_, fun t ht => ?_, fun i hi hil => ?_⟩
    · have hjl : j < ops.size := (Array.getElem?_eq_some_iff.1 hj).1
      have h1 := List.all_eq_true.1 hcl j (List.mem_range.2 hjl)
      simp only [hl, hj, Bool.not_true, Bool.false_or, Array.all_eq_true_iff_forall_mem, Bool.or_eq_true, Bool.not_eq_true'] at h1
      rcases h1 e he with h2 | h2
      · rw [hb] at h2; cases h2
      · exact h2
    · have := List.all_eq_true.1 htl t ht
      simpa using this
    · have hls : i < listed.size := by rw [hsz]; exact hil
      simpa [hls] using hi
  exact wpAny_of_N (L := fun listed' a' => seqL md ops ts listed' = true ∧ wpList P ops Q' (pick ops ts) a' w) (fun listed' a' hL => wpAny_of_seqL ts listed' a' w hL.1 hL.2) hd.length listed a (wpAnyN_lex hsel hs hc hd listed a inv hlex h)
end
end Go.Proofs.YtnfcdbjckdhieaaGreat

namespace Go.Proofs.YtnfcdbjckdhieaaGreat
set_option linter.all false

section
variable {P : Program} {ops : Array Oper} {md : Region.Mode} {Q : Exit → Act → World → Prop} {I : World → Prop} {es : List Nat}

/-- None of the last part has been done. -/
def noE (es : List Nat) (listed : Array Bool) : Prop := ∀ e ∈ es, listed.getD e true = false
def wpAnyE (P : Program) (md : Region.Mode) (ops : Array Oper) (Q : Exit → Act → World → Prop) (I : World → Prop) (es : List Nat) : Nat → Array Bool → Act → World → Prop
  | 0, listed, a, w => (noE es listed → I w) ∧ Region.ready md ops listed = [] ∧ Q .normal a w
  | f + 1, listed, a, w => (noE es listed → I w) ∧ (Region.ready md ops listed = [] → Q .normal a w) ∧ ∀ i ∈ Region.ready md ops listed, wpOp P ops Q i (wpAnyE P md ops Q I es f (listed.setIfInBounds i true)) a w
theorem wpAnyE.inv {f : Nat} {listed : Array Bool} {a : Act} {w : World} (h : wpAnyE P md ops Q I es f listed a w) : noE es listed → I w := by cases f <;> exact h.1
theorem wpAny_of_E : ∀ (f : Nat) (listed : Array Bool) (a : Act) (w : World), wpAnyE P md ops Q I es f listed a w → wpAny P md ops Q f listed a w
  | 0, _, _, _, h => h.2
  | f + 1, _, _, _, h => ⟨h.2.1, fun i hi => wpOp_mono (fun a' w' h' => wpAny_of_E f _ a' w' h') (h.2.2 i hi)⟩

/-- One operation ahead of another one that is apart from it. -/
theorem wpOp_ahead (Y : Act → Prop) {j : Nat} {oi oj : Oper} {v : Value} (hj : ops[j]? = some oj) (hap : oi.apart ops oj = true) (hsj : ∀ cs b, oj.op ≠ .select cs b)
    (keep : ∀ a, Y a → ∀ u, Y (a.put oj.dst u)) (keepD : ∀ a, Y a → ∀ d, Y { a with defers := d :: a.defers })
    (hQ : ∀ c a w, Q (.panic c) (a.put oi.dst v) w → Q (.panic c) a w) {K : Act → World → Prop} {a : Act} {w : World}
    (hy : Y a) (h : wpOp P ops Q j K (a.put oi.dst v) w) : wpOp P ops Q j (fun a' w' => Y a' ∧ K (a'.put oi.dst v) w') a w := by
  obtain ⟨h1, h2, _⟩ := Oper.apart_spec hap
  unfold wpOp at *
  simp only [hj] at *
  rw [wanted_put oj a oi.dst v h1] at h
  by_cases hw : Region.wanted oj (yielded ops a.tmps) = true
  · simp only [hw, if_true] at h ⊢
    rcases h with h | ⟨hasks, hlets⟩
    · refine .inl ?_
      unfold Oper.wp at *
      rw [execOp_put oj hsj a oi.dst v h1] at h
      generalize (execOp a.eval oj).run P w = r at *
      cases r with
      | ok n w' =>
        cases n <;> simp only [Oper.upon] at h ⊢
        case value u => exact ⟨keep a hy u, by rw [← Act.put_comm a v u h2]; exact h⟩
        case skip => exact ⟨keep a hy _, by rw [← Act.put_comm a v undef h2]; exact h⟩
        case defer d => exact ⟨keep _ (keepD a hy d) _, by rw [← Act.put_comm _ v undef h2, ← Act.put_defers]; exact h⟩
        case row row args => exact Rows.mono h fun u w'' he => ⟨keep a hy u, by rw [← Act.put_comm a v u h2]; exact he⟩
        case enter f args =>
          refine Calls.mono h fun e w'' he => ?_
          cases e with
          | returned u => exact ⟨keep a hy u, by rw [← Act.put_comm a v u h2]; exact he⟩
          | panicked c => exact hQ _ _ _ he
          | outgrown => exact he
      | halt x w' =>
        cases x <;> simp only [Oper.upon] at h ⊢
        case panic u => exact hQ _ _ _ h
    · exact .inr ⟨by unfold Oper.asks at *; rw [execOp_put oj hsj a oi.dst v h1] at hasks; exact hasks, hlets⟩
  · simp only [hw] at h ⊢
    exact ⟨keep a hy _, by rw [← Act.put_comm a v undef h2]; exact h⟩

/-- j waits for i, at once or through others. -/
def reachL (md : Region.Mode) (ops : Array Oper) : Nat → Nat → Nat → Bool
  | 0, _, _ => false
  | f + 1, j, i => match ops[j]? with
    | some oj => oj.after.any fun e => Region.binds md e && (e.on == i || reachL md ops f e.on i)
    | none => false
def Closed (md : Region.Mode) (ops : Array Oper) (listed : Array Bool) : Prop :=
  listed.size = ops.size ∧ ∀ j oj, ops[j]? = some oj → listed.getD j false = true → ∀ e ∈ oj.after, Region.binds md e = true → listed.getD e.on false = true
theorem Closed.set {i : Nat} {listed : Array Bool} (inv : Closed md ops listed) (hi : i ∈ Region.ready md ops listed) : Closed md ops (listed.setIfInBounds i true) := by
  obtain ⟨_, oi, hoi, hall⟩ := mem_ready.1 hi
  refine ⟨by simp [inv.1], fun j oj hj hl e he hb => ?_⟩
  by_cases hij : i = j
  · subst hij
    obtain rfl : oj = oi := Option.some.inj (hj.symm.trans hoi)
    exact getD_set_true (hall e he hb)
  · rw [getD_set_ne false hij] at hl
    exact getD_set_true (inv.2 j oj hj hl e he hb)
theorem reachL_listed {listed : Array Bool} (inv : Closed md ops listed) : ∀ (f j i : Nat), reachL md ops f j i = true → listed.getD j false = true → listed.getD i false = true
  | 0, _, _, h, _ => by simp [reachL] at h
  | f + 1, j, i, h, hl => by
    unfold reachL at h
    split at h
    · rename_i oj hj
      obtain ⟨e, he, hb⟩ := Array.any_eq_true'.1 h
      simp only [Bool.and_eq_true, Bool.or_eq_true, beq_iff_eq] at hb
      have h1 := inv.2 j oj hj hl e he hb.1
      rcases hb.2 with h2 | h2
      · rw [← h2]; exact h1
      · exact reachL_listed inv f e.on i h2 h1
    · cases h
theorem reachL_ready {listed : Array Bool} (inv : Closed md ops listed) {f j i : Nat} (h : reachL md ops f j i = true) (hr : j ∈ Region.ready md ops listed) : listed.getD i false = true := by
  obtain ⟨_, oj, hoj, hall⟩ := mem_ready.1 hr
  cases f with
  | zero => simp [reachL] at h
  | succ f =>
    simp only [reachL, hoj] at h
    obtain ⟨e, he, hb⟩ := Array.any_eq_true'.1 h
    simp only [Bool.and_eq_true, Bool.or_eq_true, beq_iff_eq] at hb
    have h1 := hall e he hb.1
    rcases hb.2 with h2 | h2
    · rw [← h2]; exact h1
    · exact reachL_listed inv f e.on i h2 h1

theorem yieldsAt_keep {w : World} {oi oj : Oper} {v : Value} {a : Act} (hap : oi.apart ops oj = true) (hsi : ∀ cs b, oi.op ≠ .select cs b) (hy : YieldsAt P ops w oi v a) (u : Value) : YieldsAt P ops w oi v (a.put oj.dst u) := by
  obtain ⟨_, _, h3⟩ := Oper.apart_spec hap
  exact hy.of_same (execOp_put oi hsi a oj.dst u h3) (wanted_put oi a oj.dst u h3)

theorem takeE {i : Nat} {oi : Oper} {v : Value} (hi : ops[i]? = some oi) (hsel : ∀ (j : Nat) (o : Oper) cs b, ops[j]? = some o → o.op ≠ .select cs b)
    (hQ : ∀ c a w, Q (.panic c) (a.put oi.dst v) w → Q (.panic c) a w) (F : Nat) (hb : ∀ e ∈ es, reachL md ops F e i = true) :
    ∀ (f : Nat) (listed : Array Bool) (a : Act) (w : World), Closed md ops listed → noE es listed → I w →
      (∀ j oj, ops[j]? = some oj → j ≠ i → listed.getD j true = false → (∀ e ∈ oj.after, Region.binds md e = true → e.on ≠ i) → oi.apart ops oj = true) →
      i ∈ Region.ready md ops listed → (∀ w', I w' → YieldsAt P ops w' oi v a) →
      wpAnyE P md ops Q I es f (listed.setIfInBounds i true) (a.put oi.dst v) w → wpAnyE P md ops Q I es (f + 1) listed a w := by
  intro f
  induction f with
  | zero =>
    intro listed a w inv hn hI _ hr hy H
    refine ⟨fun _ => hI, fun h => (by rw [h] at hr; cases hr), fun j hj => ?_⟩
    by_cases hji : j = i
    · subst hji
      exact wpOp_of_stOp (K := fun a' => wpAnyE P md ops Q I es 0 (listed.setIfInBounds j true) a' w) (fun _ h => h) ((hy w hI).stOp hi H)
    · have := ready_mono hj hji
      rw [H.2.1] at this
      cases this
  | succ f ih =>
    intro listed a w inv hn hI hfree hr hy H
    have hun := (mem_ready.1 hr).1
    refine ⟨fun _ => hI, fun h => (by rw [h] at hr; cases hr), fun j hj => ?_⟩
    by_cases hji : j = i
    · subst hji
      exact wpOp_of_stOp (K := fun a' => wpAnyE P md ops Q I es (f + 1) (listed.setIfInBounds j true) a' w) (fun _ h => h) ((hy w hI).stOp hi H)
    · have h1 := H.2.2 j (ready_mono hj hji)
      obtain ⟨hjun, oj, hoj, hall⟩ := mem_ready.1 hj
      have hjE : j ∉ es := fun he => by
        have := reachL_ready inv (hb j he) hj
        rw [getD_both hun] at this
        cases this
      have hnot : ∀ e ∈ oj.after, Region.binds md e = true → e.on ≠ i := fun e he hbb heq => by
        have h1 := hall e he hbb
        rw [heq, getD_both hun] at h1
        cases h1
      have hap := hfree j oj hoj hji hjun hnot
      have h2 := wpOp_ahead (Y := fun a' => ∀ w', I w' → YieldsAt P ops w' oi v a') hoj hap (fun cs b => hsel j oj cs b hoj) (fun a' h u w' hw' => yieldsAt_keep hap (fun cs b => hsel i oi cs b hi) (h w' hw') u)
        (fun a' h d w' hw' => (h w' hw').of_same rfl rfl) hQ hy h1
      refine wpOp_mono (fun a' w' h3 => ?_) h2
      have hn2 : noE es (listed.setIfInBounds j true) := fun e he => by
        have : j ≠ e := fun h => hjE (h ▸ he)
        rw [getD_set_ne true this]; exact hn e he
      have hI' : I w' := h3.2.inv (fun e he => by
        have h4 : j ≠ e := fun h => hjE (h ▸ he)
        have h5 : i ≠ e := fun h => by
          subst h
          have := hb i he
          exact absurd (reachL_ready inv this hr) (by rw [getD_both hun]; simp)
        rw [getD_set_ne true h4, getD_set_ne true h5]; exact hn e he)
      refine ih (listed.setIfInBounds j true) a' w' (inv.set hj) hn2 hI' (fun k ok hk hki hun' hno => ?_) (ready_mono hr (Ne.symm hji)) h3.1 ?_
      · refine hfree k ok hk hki ?_ hno
        by_cases hjk : j = k
        · subst hjk; exact hjun
        · rw [getD_set_ne true hjk] at hun'; exact hun'
      · rw [Array.setIfInBounds_comm _ _ hji]
        exact h3.2

def takeB (md : Region.Mode) (ops : Array Oper) (es : List Nat) (listed : Array Bool) (i : Nat) : Bool :=
  Region.noSelect ops && decide (listed.size = ops.size) && closedL md ops listed && (es.all fun e => !listed.getD e true) && (es.all fun e => reachL md ops ops.size e i) && (Region.ready md ops listed).contains i && Region.free md ops listed i
theorem closedL_spec {listed : Array Bool} (hsz : listed.size = ops.size) (hcl : closedL md ops listed = true) : Closed md ops listed := by
  refine ⟨hsz, fun j oj hj hl e he hb => ?_⟩
  have hjl : j < ops.size := (Array.getElem?_eq_some_iff.1 hj).1
  have h1 := List.all_eq_true.1 hcl j (List.mem_range.2 hjl)
  simp only [hl, hj, Bool.not_true, Bool.false_or, Array.all_eq_true_iff_forall_mem, Bool.or_eq_true, Bool.not_eq_true'] at h1
  rcases h1 e he with h2 | h2
  · rw [hb] at h2; cases h2
  · exact h2
/-- One operation taken first: it yields v in whatever world has the fact. -/
theorem wpAnyE_take {f : Nat} {listed : Array Bool} {a : Act} {w : World} (i : Nat) {oi : Oper} {v : Value} (hi : ops[i]? = some oi) (hB : takeB md ops es listed i = true) (hQ : ∀ c a w, Q (.panic c) (a.put oi.dst v) w → Q (.panic c) a w) (hI : I w)
    (hy : ∀ w', I w' → YieldsAt P ops w' oi v a) (h : wpAnyE P md ops Q I es f (listed.setIfInBounds i true) (a.put oi.dst v) w) : wpAnyE P md ops Q I es (f + 1) listed a w := by
  simp only [takeB, Bool.and_eq_true, decide_eq_true_eq] at hB
  obtain ⟨⟨⟨⟨⟨⟨hsel, hsz⟩, hcl⟩, hn⟩, hb⟩, hr⟩, hf⟩ := hB
  exact takeE hi (Region.noSelect_spec hsel) hQ ops.size (fun e he => List.all_eq_true.1 hb e he) f listed a w (closedL_spec hsz hcl) (fun e he => by simpa using List.all_eq_true.1 hn e he) hI (Region.free_spec hi hf) (by simpa using hr) hy h

/-- The chain: behind each of its first n operations the fact must hold. -/
def wpListI (P : Program) (ops : Array Oper) (Q : Exit → Act → World → Prop) (I : World → Prop) : Nat → List Oper → Act → World → Prop
  | 0, l, a, w => wpList P ops Q l a w
  | _ + 1, [], a, w => Q .normal a w
  | n + 1, o :: r, a, w => if Region.wanted o (yielded ops a.tmps) then o.wp P a w (fun a' w' => I w' ∧ wpListI P ops Q I n r a' w') Q else I w ∧ wpListI P ops Q I n r (a.put o.dst undef) w
theorem wpListI_step {n : Nat} {o : Oper} {r : List Oper} {a : Act} {w : World} (h : ∀ K : Act → World → Prop, (∀ a w, I w → wpListI P ops Q I n r a w → K a w) → if Region.wanted o (yielded ops a.tmps) then o.wp P a w K Q else K (a.put o.dst undef) w) : wpListI P ops Q I (n + 1) (o :: r) a w := by
  have := h (fun a' w' => I w' ∧ wpListI P ops Q I n r a' w') (fun a w h1 h2 => ⟨h1, h2⟩)
  unfold wpListI
  exact this
theorem wpListI_zero {l : List Oper} {a : Act} {w : World} (h : wpList P ops Q l a w) : wpListI P ops Q I 0 l a w := h
theorem wpAnyE_rest : ∀ (ts : List Nat) (listed : Array Bool) (a : Act) (w : World), listed.size = ops.size → (noE es listed → I w) → (∀ t ∈ ts, t ∈ es) → seqL md ops ts listed = true → wpList P ops Q (pick ops ts) a w → wpAnyE P md ops Q I es ts.length listed a w
  | [], listed, a, w, _, hI, _, hB, h => ⟨hI, by simpa [seqL] using hB, h⟩
  | t :: r, listed, a, w, hsz, hI, hE, hB, h => by
    simp only [seqL, Bool.and_eq_true, decide_eq_true_eq] at hB
    refine ⟨hI, fun h1 => (by rw [hB.1] at h1; cases h1), fun i hi => ?_⟩
    rw [hB.1] at hi
    obtain rfl : i = t := by simpa using hi
    have hr : i ∈ Region.ready md ops listed := by rw [hB.1]; simp
    obtain ⟨_, o, ho, _⟩ := mem_ready.1 hr
    have hil : i < ops.size := (Array.getElem?_eq_some_iff.1 ho).1
    have hp : pick ops (i :: r) = o :: pick ops r := by simp [pick, ho]
    rw [hp] at h
    have hw : wpOp P ops Q i (wpList P ops Q (pick ops r)) a w := by unfold wpOp; simp only [ho]; exact h
    refine wpOp_mono (fun a' w' h' => wpAnyE_rest r _ a' w' (by simp [hsz]) (fun hn => ?_) (fun t ht => hE t (List.mem_cons_of_mem _ ht)) hB.2 h') hw
    have := hn i (hE i List.mem_cons_self)
    simp [hsz, hil] at this
theorem wpAnyE_seq (rest : List Nat) (hE : ∀ t ∈ rest, t ∈ es) : ∀ (pre : List Nat) (listed : Array Bool) (a : Act) (w : World), listed.size = ops.size → I w → seqL md ops (pre ++ rest) listed = true → wpListI P ops Q I pre.length (pick ops (pre ++ rest)) a w →
    wpAnyE P md ops Q I es (pre.length + rest.length) listed a w
  | [], listed, a, w, hsz, hI, hB, h => by
    have := wpAnyE_rest rest listed a w hsz (fun _ => hI) hE hB h
    simpa using this
  | t :: r, listed, a, w, hsz, hI, hB, h => by
    simp only [List.cons_append, seqL, Bool.and_eq_true, decide_eq_true_eq] at hB
    rw [show (t :: r).length + rest.length = (r.length + rest.length) + 1 by simp; omega]
    refine ⟨fun _ => hI, fun h1 => (by rw [hB.1] at h1; cases h1), fun i hi => ?_⟩
    rw [hB.1] at hi
    obtain rfl : i = t := by simpa using hi
    have hr : i ∈ Region.ready md ops listed := by rw [hB.1]; simp
    obtain ⟨_, o, ho, _⟩ := mem_ready.1 hr
    have hp : pick ops (i :: r ++ rest) = o :: pick ops (r ++ rest) := by simp [pick, ho]
    rw [hp] at h
    have hw : wpOp P ops Q i (fun a' w' => I w' ∧ wpListI P ops Q I r.length (pick ops (r ++ rest)) a' w') a w := by
      unfold wpOp
      simp only [ho]
      simp only [List.length_cons, wpListI] at h
      split at h
      · rename_i hw; simp only [hw, if_true]; exact .inl h
      · rename_i hw; simp only [hw]; exact h
    exact wpOp_mono (fun a' w' h' => wpAnyE_seq rest hE r _ a' w' (by simp [hsz]) h'.1 hB.2 h'.2) hw
/-- All heads taken: the chain, pre with the fact, rest without. -/
theorem wpAnyE_chain {f : Nat} {listed : Array Bool} {a : Act} {w : World} (pre rest : List Nat) (hf : f = pre.length + rest.length) (hB : (decide (listed.size = ops.size) && (rest.all fun t => es.contains t) && seqL md ops (pre ++ rest) listed) = true) (hI : I w)
    (h : wpListI P ops Q I pre.length (pick ops (pre ++ rest)) a w) : wpAnyE P md ops Q I es f listed a w := by
  subst hf
  simp only [Bool.and_eq_true, decide_eq_true_eq] at hB
  obtain ⟨⟨h1, h2⟩, h3⟩ := hB
  exact wpAnyE_seq rest (fun t ht => by simpa using List.all_eq_true.1 h2 t ht) pre listed a w h1 hI h3 h
theorem pick_range (l : List Oper) (d : Nat) : ∀ m, d + m ≤ l.length → pick l.toArray ((List.range m).map (d + ·)) = (l.drop d).take m
  | 0, _ => by simp [pick]
  | m + 1, h => by
    have hx : l[d + m]? = some (l[d + m]'(by omega)) := List.getElem?_eq_getElem (by omega)
    have ih := pick_range l d m (by omega)
    unfold pick at ih ⊢
    rw [List.range_succ, List.map_append, List.filterMap_append, ih, List.take_add_one, List.getElem?_drop, hx]
    simp [hx]
/-- The same where the chain is the region's end. -/
theorem wpAnyE_tail {l : List Oper} {f : Nat} {listed : Array Bool} {a : Act} {w : World} (d : Nat) (pre rest : List Nat) (hf : f = pre.length + rest.length) (hB : (decide (listed.size = l.toArray.size) && (rest.all fun t => es.contains t) && seqL md l.toArray (pre ++ rest) listed) = true)
    (hd : pre ++ rest = (List.range (l.length - d)).map (d + ·)) (hI : I w) (h : wpListI P l.toArray Q I pre.length (l.drop d) a w) : wpAnyE P md l.toArray Q I es f listed a w := by
  refine wpAnyE_chain pre rest hf hB hI ?_
  have e : pick l.toArray (pre ++ rest) = l.drop d := by
    rw [hd]
    by_cases hdl : d ≤ l.length
    · rw [pick_range l d _ (by omega), List.take_of_length_le (by simp)]
    · rw [show l.length - d = 0 by omega, List.drop_of_length_le (by omega)]; rfl
  rw [e]; exact h
/-- A region that draws its order, under a fact that holds until the operations es begin. -/
theorem wp_region_E {id : Nat} {a : Act} {w : World} (I : World → Prop) (es : List Nat) (hm : P.follows .mixedOrders = true) (h : wpAnyE P .any ops Q I es ops.size (Array.replicate ops.size false) a { w with drawn := w.drawn + 1 }) : (Code.region id ops true).wp P Q a w :=
  wp_region_any hm (wpAny_of_E _ _ _ _ h)
end
end Go.Proofs.YtnfcdbjckdhieaaGreat

namespace Go.Proofs.YtnfcdbjckdhieaaGreat
set_option linter.all false
section
variable {P : Program} {ops : Array Oper} {md : Region.Mode} {Q : Exit → Act → World → Prop} {I : World → Prop} {es : List Nat}
theorem wpAnyE_one {f : Nat} {listed : Array Bool} {a : Act} {w : World} (i : Nat) {o : Oper} (ho : ops[i]? = some o) (hB : decide (Region.ready md ops listed = [i]) = true) (hI : I w)
    (h : ∀ K : Act → World → Prop, (∀ a w, wpAnyE P md ops Q I es f (listed.setIfInBounds i true) a w → K a w) → if Region.wanted o (yielded ops a.tmps) then o.wp P a w K Q else K (a.put o.dst undef) w) : wpAnyE P md ops Q I es (f + 1) listed a w := by
  have hB := of_decide_eq_true hB
  refine ⟨fun _ => hI, fun h1 => (by rw [hB] at h1; cases h1), fun j hj => ?_⟩
  rw [hB] at hj
  obtain rfl : j = i := by simpa using hj
  have h2 := h (fun a' w' => wpAnyE P md ops Q I es f (listed.setIfInBounds j true) a' w') (fun a w h => h)
  unfold wpOp
  simp only [ho]
  split at h2
  · rename_i hw; simp only [hw, if_true]; exact .inl h2
  · rename_i hw; simp only [hw]; exact h2
/-- Where two operations may come: either of them. -/
theorem wpAnyE_two {f : Nat} {listed : Array Bool} {a : Act} {w : World} (i j : Nat) {o p : Oper} (ho : ops[i]? = some o) (hp : ops[j]? = some p) (hB : decide (Region.ready md ops listed = [i, j]) = true) (hI : I w)
    (h : ∀ K : Act → World → Prop, (∀ a w, wpAnyE P md ops Q I es f (listed.setIfInBounds i true) a w → K a w) → if Region.wanted o (yielded ops a.tmps) then o.wp P a w K Q else K (a.put o.dst undef) w)
    (g : ∀ K : Act → World → Prop, (∀ a w, wpAnyE P md ops Q I es f (listed.setIfInBounds j true) a w → K a w) → if Region.wanted p (yielded ops a.tmps) then p.wp P a w K Q else K (a.put p.dst undef) w) : wpAnyE P md ops Q I es (f + 1) listed a w := by
  have hB := of_decide_eq_true hB
  refine ⟨fun _ => hI, fun h1 => (by rw [hB] at h1; cases h1), fun q hq => ?_⟩
  rw [hB] at hq
  rcases List.mem_cons.1 hq with rfl | hq
  · have h2 := h (fun a' w' => wpAnyE P md ops Q I es f (listed.setIfInBounds q true) a' w') (fun a w h => h)
    unfold wpOp
    simp only [ho]
    split at h2
    · rename_i hw; simp only [hw, if_true]; exact .inl h2
    · rename_i hw; simp only [hw]; exact h2
  · obtain rfl : q = j := by simpa using hq
    have h2 := g (fun a' w' => wpAnyE P md ops Q I es f (listed.setIfInBounds q true) a' w') (fun a w h => h)
    unfold wpOp
    simp only [hp]
    split at h2
    · rename_i hw; simp only [hw, if_true]; exact .inl h2
    · rename_i hw; simp only [hw]; exact h2
/-- All operations are through. -/
theorem wpAnyE_end {listed : Array Bool} {a : Act} {w : World} (hB : decide (Region.ready md ops listed = []) = true) (hI : I w) (h : Q .normal a w) : wpAnyE P md ops Q I es 0 listed a w :=
  ⟨fun _ => hI, of_decide_eq_true hB, h⟩
end
end Go.Proofs.YtnfcdbjckdhieaaGreat
