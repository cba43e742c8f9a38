/- Layer 1: the reader: a byte, a flag, a number; for all bytes, no condition. -/
import Derived.Test.YtdmjabfjkkjhbaaDoorOctH
namespace Go.Proofs.YtdmjabfjkkjhbaaDoor
set_option linter.all false
open Go.RowKit

/-- What reading a field comes to: the fault, the field's parts, what is still to read. -/
structure R where
  e : Int
  n : Int
  text : List Int
  list : List ByteArray
  rest : List Int
def rShort (l : List Int) : R := ⟨3, 0, [], [], l⟩
def rOctet (l : List Int) : R := if l.length < 1 then rShort l else ⟨0, l.getD 0 0, [], [], l.drop 1⟩
/-- The field's memory lies from B on. -/
def FD.new (f : FD) (B : Nat) : Prop := (∀ a, f.tA = some a → B ≤ a.block) ∧ (∀ a, f.lA = some a → B ≤ a.block)
theorem FD.ok.onlyL {w w' : World} {f : FD} {q : Nat} (h : f.ok w) (hb : Only [q] w w') {B : Nat} (hn : f.new B) (hq : q < B) : f.ok w' :=
  { h with
    text := h.text.onlyL hb (fun a ha _ => by have := hn.1 a ha; simp; omega)
    list := h.list.onlyL hb (fun a ha _ => by have := hn.2 a ha; simp; omega) }
theorem FD.new.mono {f : FD} {B B' : Nat} (h : f.new B) (hb : B' ≤ B) : f.new B' := ⟨fun a ha => Nat.le_trans hb (h.1 a ha), fun a ha => Nat.le_trans hb (h.2 a ha)⟩
theorem FD.ok.with {w : World} {f : FD} (h : f.ok w) (k n : Int) : FD.ok w { f with kind := k, n := n } := ⟨h.text, h.list, h.tle, h.tmax, h.lle, h.lmax, h.strs⟩
def FD.soft (f : FD) (w : World) : Prop := ∀ a, f.tA = some a → ∀ i, i < f.text.length → w.frozen? (a.add i) = false
/-- The field can be read, its memory lies from B on, its bytes can be written. -/
structure FD.mine (w : World) (f : FD) (B : Nat) : Prop where
  ok : f.ok w
  new : f.new B
  soft : f.soft w
theorem block_add (a : Addr) (n : Nat) : (a.add n).block = a.block := by unfold Addr.add; split <;> rfl
theorem FD.soft.onlyL {w w' : World} {f : FD} {L : List Nat} (h : f.soft w) (ho : f.ok w) (hb : Only L w w') (hL : ∀ a, f.tA = some a → a.block ∉ L) : f.soft w' := by
  intro a ha i hi
  obtain ⟨b, off, e, hlt, _⟩ := ho.text (by omega)
  rw [ha] at e
  injection e with e
  refine (World.frozen?_of_block (w := w) ?_).trans (h a ha i hi)
  rw [block_add]
  exact hb.block _ (by rw [e]; exact hlt) (hL a ha)
theorem FD.mine.only {w w' : World} {f : FD} {B : Nat} (h : FD.mine w f B) (hb : Only [] w w') : FD.mine w' f B := ⟨h.ok.only hb, h.new, h.soft.onlyL h.ok hb (fun _ _ => by simp)⟩
theorem FD.mine.onlyL {w w' : World} {f : FD} {B q : Nat} (h : FD.mine w f B) (hb : Only [q] w w') (hq : q < B) : FD.mine w' f B := ⟨h.ok.onlyL hb h.new hq, h.new, h.soft.onlyL h.ok hb (fun a ha => by have := h.new.1 a ha; simp; omega)⟩
theorem FD.mine.mono {w : World} {f : FD} {B B' : Nat} (h : FD.mine w f B) (hb : B' ≤ B) : FD.mine w f B' := ⟨h.ok, h.new.mono hb, h.soft⟩
theorem FD.mine.with {w : World} {f : FD} {B : Nat} (h : FD.mine w f B) (k n : Int) : FD.mine w { f with kind := k, n := n } B := ⟨h.ok.with k n, h.new, h.soft⟩
def RPost (w : World) (g : Nat) (r : R) : Ending → World → Prop := fun E w' =>
  Only [g] w w' ∧ ∃ tA tc lA lc, E = .returned (FD.val ⟨0, r.n, tA, tc, r.text, lA, lc, r.list⟩) ∧ FD.mine w' ⟨0, r.n, tA, tc, r.text, lA, lc, r.list⟩ w.heap.size ∧ ∃ A' cap', RdrV w' g A' cap' r.rest r.e
theorem FD.ok.plain (w : World) (k n : Int) : FD.ok w ⟨k, n, none, 0, [], none, 0, []⟩ := ⟨RdG.nil, RdG.nil, by simp, by simp, by simp, by simp, by simp⟩
theorem FD.new.plain (k n : Int) (B : Nat) : FD.new ⟨k, n, none, 0, [], none, 0, []⟩ B := ⟨fun a ha => by simp at ha, fun a ha => by simp at ha⟩
theorem FD.mine.plain (w : World) (k n : Int) (B : Nat) : FD.mine w ⟨k, n, none, 0, [], none, 0, []⟩ B := ⟨FD.ok.plain _ _ _, FD.new.plain _ _ _, fun a ha => by simp at ha⟩
theorem rpost_plain {w w' : World} {g : Nat} {e n : Int} {rest : List Int} {A : Option Addr} {cap : Nat} (h : Only [g] w w') (hr : RdrV w' g A cap rest e) : RPost w g ⟨e, n, [], [], rest⟩ (.returned (.agg #[.int .i64 0, .int .u32 n, .slice none 0 0, .slice none 0 0])) w' :=
  ⟨h, none, 0, none, 0, rfl, FD.mine.plain _ _ _ _, A, cap, hr⟩

/-- A whole field is stored. -/
def W4 (w : World) (q : Nat) (a b c d : Value) : World := (((w.setCell ⟨q, 0, none⟩ a).setCell ⟨q, 1, none⟩ b).setCell ⟨q, 2, none⟩ c).setCell ⟨q, 3, none⟩ d
theorem W4.blk {w : World} {q : Nat} {x0 x1 x2 x3 : Value} (K : Blk w q 35 [x0, x1, x2, x3]) (a b c d : Value) : Blk (W4 w q a b c d) q 35 [a, b, c, d] := (((K.set_ 0 a).set_ 1 b).set_ 2 c).set_ 3 d
theorem W4.only (w : World) (q : Nat) (a b c d : Value) : Only [q] w (W4 w q a b c d) :=
  ((((Only.refl [q] w).setCell (p := ⟨q, 0, none⟩) (.inl (by simp)) a).setCell (p := ⟨q, 1, none⟩) (.inl (by simp)) b).setCell (p := ⟨q, 2, none⟩) (.inl (by simp)) c).setCell (p := ⟨q, 3, none⟩) (.inl (by simp)) d
theorem RdrV.far4 {w w' : World} {g q : Nat} {A : Option Addr} {cap : Nat} {l : List Int} {e : Int} (h : RdrV w g A cap l e) (hb : Only [q] w w') (hq : g < q) : RdrV w' g A cap l e :=
  { h with blk := h.blk.only hb (by simp; omega), rd := h.rd.onlyG hb (fun a ha => by have := h.far a ha; omega) }
theorem ret_field {fn : Func} {p : Tmp} {R : Ending → World → Prop} {a : Act} {w : World} {g : Nat} {v0 v1 v2 v3 : Value} (h : fn.results = #[.cell p 35]) (hp : a.tmps.getD p undef = .pointer (some ⟨g, 0, none⟩)) (hd : a.defers = [])
    (hg : Blk w g 35 [v0, v1, v2, v3]) (hR : R (.returned (.agg #[v0, v1, v2, v3])) w) : bodyPost Tryd.prog fn R .ret a w :=
  bodyPost_ret (results_cell_row h _ w g 35 _ (0, 0) _ hp hg Tryd.underlying35 rfl (by kernel_rfl)) hd hR

set_option maxRecDepth 100000 in
set_option maxHeartbeats 3200000 in
theorem octet_any (w : World) (g : Nat) (A : Option Addr) (cap : Nat) (l : List Int) (h : RdrV w g A cap l 0) (hl : ∀ x ∈ l, 0 ≤ x ∧ x < 256) :
    Calls Tryd.prog 41 #[.pointer (some ⟨g, 0, none⟩)] w (RPost w g (rOctet l)) := by
  obtain ⟨w1, hw1⟩ : ∃ w1, w1 = w.alloc (.cells #[.int .i64 0, .int .u32 0, .slice none 0 0, .slice none 0 0] 35) := ⟨_, rfl⟩
  have P1 : Only [] w w1 := by rw [hw1]; exact (Only.refl _ _).alloc _
  have K : Blk w1 w.heap.size 35 [.int .i64 0, .int .u32 0, .slice none 0 0, .slice none 0 0] := by rw [hw1]; exact Blk.new w _ _
  have h1 := h.only P1
  have hgl := h.blk.lt
  by_cases hs : l.length < 1
  · have hr : rOctet l = rShort l := if_pos hs
    rw [hr]
    have T := take_short w1 g A cap l 1 h1 hs (by omega)
    clear hr hs
    go_enter Tryd.func41, Tryd.ntmps41
    go_wp2_with fail
    rw [← hw1]
    replace hw1 := hide hw1
    go_wp2_with fail
    go_call T as e w2 ⟨rfl, R2, P2⟩
    have K2 := K.only P2 (by simp; omega)
    have kn := nil_none
    have f0 := K2.frozen 0
    have f1 := K2.frozen 1
    have f2 := K2.frozen 2
    have f3 := K2.frozen 3
    have c0 : w2.cell? ⟨w.heap.size, 0, none⟩ = some (.int .i64 0) := K2.cell 0
    have c1 : w2.cell? ⟨w.heap.size, 1, none⟩ = some (.int .u32 0) := K2.cell 1
    have c2 : w2.cell? ⟨w.heap.size, 2, none⟩ = some (.slice none 0 0) := K2.cell 2
    have c3 : w2.cell? ⟨w.heap.size, 3, none⟩ = some (.slice none 0 0) := K2.cell 3
    go_wp2_with fail
    (try simp only [Exit.inBlock, Exit.then])
    refine ret_field (v0 := .int .i64 0) (v1 := .int .u32 0) (v2 := .slice none 0 0) (v3 := .slice none 0 0) rfl (by rfl) (by rfl) (W4.blk K2 _ _ _ _) (rpost_plain (((P1.mono (by simp)).trans P2 (by simp)).trans (W4.only w2 _ _ _ _ _) (by simp)) (R2.far4 (W4.only _ _ _ _ _ _) hgl))
  · have hr : rOctet l = ⟨0, l.getD 0 0, [], [], l.drop 1⟩ := if_neg hs
    rw [hr]
    have T := take_ok w1 g A cap l 1 h1 (by omega)
    have hx0 : ∃ x, l[0]? = some x ∧ l.getD 0 0 = x ∧ 0 ≤ x ∧ x < 256 := by
      refine ⟨l[0]'(by omega), List.getElem?_eq_getElem (by omega), ?_, hl _ (List.getElem_mem _)⟩
      simp [List.getD, List.getElem?_eq_getElem (show 0 < l.length by omega)]
    obtain ⟨x, hx, hxd, hxa, hxb⟩ := hx0
    rw [hxd]
    have hxt : (l.take 1)[0]? = some x := by rw [List.getElem?_take]; simpa using hx
    obtain ⟨b, off, rfl, _⟩ := h.rd (by omega)
    replace hxt := hide hxt
    replace hx := hide hx
    replace hxd := hide hxd
    clear hr hs
    go_enter Tryd.func41, Tryd.ntmps41
    go_wp2_with fail
    rw [← hw1]
    replace hw1 := hide hw1
    go_wp2_with fail
    go_call T as e w2 ⟨rfl, P2, D2, A2, cap2, R2⟩
    have K2 := K.only P2 (by simp; omega)
    have kn := nil_some
    have f0 := K2.frozen 0
    have f1 := K2.frozen 1
    have f2 := K2.frozen 2
    have f3 := K2.frozen 3
    have c0 : w2.cell? ⟨w.heap.size, 0, none⟩ = some (.int .i64 0) := K2.cell 0
    have c1 : w2.cell? ⟨w.heap.size, 1, none⟩ = some (.int .u32 0) := K2.cell 1
    have c2 : w2.cell? ⟨w.heap.size, 2, none⟩ = some (.slice none 0 0) := K2.cell 2
    have c3 : w2.cell? ⟨w.heap.size, 3, none⟩ = some (.slice none 0 0) := K2.cell 3
    have cx : w2.cell? ⟨b, off, none⟩ = some (.int .u8 x) := by
      obtain ⟨b', off', e, _, hc⟩ := D2 (by simp; have := hx.out; cases l <;> simp at this ⊢)
      injection e with e
      injection e with e1 e2
      subst e1; subst e2
      exact hc 0 x hxt.out
    go_wp2_with fail
    (try simp only [Exit.inBlock, Exit.then])
    refine ret_field (v0 := .int .i64 0) (v1 := .int .u32 x) (v2 := .slice none 0 0) (v3 := .slice none 0 0) rfl (by rfl) (by rfl) (W4.blk K2 _ _ _ _) (rpost_plain (((P1.mono (by simp)).trans P2 (by simp)).trans (W4.only w2 _ _ _ _ _) (by simp)) (by simpa [W4] using R2.far4 (W4.only _ _ _ _ _ _) hgl))

def rFlag (l : List Int) : R := let r := rOctet l; ⟨r.e, min r.n 1, r.text, r.list, r.rest⟩
set_option maxRecDepth 100000 in
set_option maxHeartbeats 3200000 in
theorem flag_any (w : World) (g : Nat) (A : Option Addr) (cap : Nat) (l : List Int) (h : RdrV w g A cap l 0) (hl : ∀ x ∈ l, 0 ≤ x ∧ x < 256) :
    Calls Tryd.prog 43 #[.pointer (some ⟨g, 0, none⟩)] w (RPost w g (rFlag l)) := by
  obtain ⟨w1, hw1⟩ : ∃ w1, w1 = w.alloc (.cells #[.int .i64 0, .int .u32 0, .slice none 0 0, .slice none 0 0] 35) := ⟨_, rfl⟩
  have P1 : Only [] w w1 := by rw [hw1]; exact (Only.refl _ _).alloc _
  have K : Blk w1 w.heap.size 35 [.int .i64 0, .int .u32 0, .slice none 0 0, .slice none 0 0] := by rw [hw1]; exact Blk.new w _ _
  have h1 := h.only P1
  have hgl := h.blk.lt
  have T := octet_any w1 g A cap l h1 hl
  have hz : w.heap.size < w1.heap.size := K.lt
  go_enter Tryd.func43, Tryd.ntmps43
  go_wp2_with fail
  rw [← hw1]
  replace hw1 := hide hw1
  go_wp2_with fail
  go_call T as e w2 ⟨P2, tA, tc, lA, lc, rfl, my2, A2, cap2, R2⟩
  unfold FD.val
  have z2 := P2.size
  have K2 := K.only P2 (by simp; omega)
  have f0 := K2.frozen 0
  have f1 := K2.frozen 1
  have f2 := K2.frozen 2
  have f3 := K2.frozen 3
  have c0 : w2.cell? ⟨w.heap.size, 0, none⟩ = some (.int .i64 0) := K2.cell 0
  have c1 : w2.cell? ⟨w.heap.size, 1, none⟩ = some (.int .u32 0) := K2.cell 1
  have c2 : w2.cell? ⟨w.heap.size, 2, none⟩ = some (.slice none 0 0) := K2.cell 2
  have c3 : w2.cell? ⟨w.heap.size, 3, none⟩ = some (.slice none 0 0) := K2.cell 3
  have hlt : w.heap.size < w2.heap.size := by omega
  have hn1 : ¬ w.heap.size = w2.heap.size := by omega
  have hn2 : ¬ w2.heap.size = w.heap.size := by omega
  go_wp2_with fail
  (try simp only [Exit.inBlock, Exit.then])
  have O4 : Only [g] w w2 := (P1.mono (by simp)).trans P2 (by simp)
  refine ret_field (v0 := .int .i64 0) (v1 := .int .u32 (min (rOctet l).n 1)) (v2 := .slice tA (rOctet l).text.length tc) (v3 := .slice lA (rOctet l).list.length lc) rfl (by rfl) (by rfl) ((W4.blk K2 _ _ _ _).alloc _) ?_
  have Q4 := W4.only w2 w.heap.size (.int .i64 0) (.int .u32 (min (rOctet l).n 1)) (.slice tA (rOctet l).text.length tc) (.slice lA (rOctet l).list.length lc)
  exact ⟨(O4.trans Q4 (by simp)).alloc _, tA, tc, lA, lc, rfl, (((my2.with 0 _).onlyL Q4 hz).only ((Only.refl _ _).alloc _)).mono (by omega), A2, cap2, (R2.far4 Q4 hgl).only ((Only.refl _ _).alloc _)⟩
end Go.Proofs.YtdmjabfjkkjhbaaDoor
