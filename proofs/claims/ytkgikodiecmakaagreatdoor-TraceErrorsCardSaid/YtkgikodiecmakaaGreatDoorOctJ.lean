/- Layer 1: the reader: what is taken off; for all bytes, no condition · Layer 1: the reader: a byte, a flag, a number; for all bytes, no condition · Layer 1: the reader: a number; for all bytes, no condition. -/
import Derived.Test.YtkgikodiecmakaaGreatDoorOctG
import Derived.Lib.EndianBits
import Derived.Laws.BitsAllLaws
namespace Go.Proofs.YtkgikodiecmakaaGreatDoor
set_option linter.all false
open Go.RowKit

/-- A reader in block g that has still l to read; its fault so far. -/
structure RdrV (w : World) (g : Nat) (A : Option Addr) (cap : Nat) (l : List Int) (e : Int) : Prop where
  blk : Blk w g 146 [.slice A l.length cap, .int .i64 e]
  rd : Rd w A l
  le : l.length ≤ cap
  max : cap ≤ maxLen
  far : ∀ a, A = some a → 0 < l.length → a.block < g
theorem RdrV.only {w w' : World} {g : Nat} {A : Option Addr} {cap : Nat} {l : List Int} {e : Int} (h : RdrV w g A cap l e) (hb : Only [] w w') : RdrV w' g A cap l e :=
  { h with blk := h.blk.only hb (by simp), rd := h.rd.only hb }
theorem Rd.onlyG {w w' : World} {g : Nat} {A : Option Addr} {l : List Int} (h : Rd w A l) (hb : Only [g] w w') (hf : ∀ a, A = some a → a.block ≠ g) : Rd w' A l :=
  RdG.onlyL (mk := .int .u8) h hb (fun a ha _ => by simpa using hf a ha)
theorem Rd.onlyP {w w' : World} {g : Nat} {A : Option Addr} {l : List Int} (h : Rd w A l) (hb : Only [g] w w') (hf : ∀ a, A = some a → 0 < l.length → a.block ≠ g) : Rd w' A l :=
  RdG.onlyL (mk := .int .u8) h hb (fun a ha h0 => by simpa using hf a ha h0)
theorem rd_drop {w : World} {A : Option Addr} {l : List Int} (h : Rd w A l) (k : Nat) : Rd w (Option.map (fun x => x.add k) A) (l.drop k) := RdG.drop (mk := .int .u8) h k
theorem Rd.take {w : World} {A : Option Addr} {l : List Int} (h : Rd w A l) (k : Nat) : Rd w A (l.take k) := RdG.take (mk := .int .u8) h k

set_option maxRecDepth 100000 in
set_option maxHeartbeats 3200000 in
theorem take_short (w : World) (g : Nat) (A : Option Addr) (cap : Nat) (l : List Int) (n : Nat) (h : RdrV w g A cap l 0) (hn : l.length < n) (hn2 : n ≤ 4294967296) :
    Calls Tryz.prog 128 #[.pointer (some ⟨g, 0, none⟩), .int .i64 n] w fun e w' => e = .returned (.slice none 0 0) ∧ RdrV w' g A cap l 3 ∧ Only [g] w w' := by
  have c0 := h.blk.cell 0
  have c1 := h.blk.cell 1
  have f1 := h.blk.frozen 1
  have hl := h.le
  have hm := h.max
  have fin : ∀ w', w' = w.setCell ⟨g, 1, none⟩ (.int .i64 3) → RdrV w' g A cap l 3 ∧ Only [g] w w' := by
    rintro w' rfl
    have P : Only [g] w (w.setCell ⟨g, 1, none⟩ (.int .i64 3)) := (Only.refl [g] w).setCell (p := ⟨g, 1, none⟩) (.inl (by simp)) _
    exact ⟨⟨h.blk.set_ 1 _, h.rd.onlyP P (fun a ha h0 => Nat.ne_of_lt (h.far a ha h0)), h.le, h.max, h.far⟩, P⟩
  replace fin := hide fin
  obtain ⟨k, hk⟩ : ∃ k, l.length = k := ⟨_, rfl⟩
  rw [hk] at c0 hn hl
  clear h hk
  go_enter Tryz.func128, Tryz.ntmps128
  go_wp2
  go_ret
  obtain ⟨r1, r2⟩ := fin.out _ rfl
  exact ⟨rfl, r1, r2⟩

set_option maxRecDepth 100000 in
set_option maxHeartbeats 3200000 in
theorem take_ok (w : World) (g : Nat) (A : Option Addr) (cap : Nat) (l : List Int) (n : Nat) (h : RdrV w g A cap l 0) (hn : n ≤ l.length) :
    Calls Tryz.prog 128 #[.pointer (some ⟨g, 0, none⟩), .int .i64 n] w fun e w' => e = .returned (.slice A n cap) ∧ Only [g] w w' ∧ Rd w' A (l.take n) ∧ ∃ A' cap', RdrV w' g A' cap' (l.drop n) 0 := by
  have c0 := h.blk.cell 0
  have c1 := h.blk.cell 1
  have f0 := h.blk.frozen 0
  have hl := h.le
  have hm := h.max
  have fin : ∀ w' A', (A' = A ∧ cap = n ∨ A' = Option.map (fun x => x.add n) A) → w' = w.setCell ⟨g, 0, none⟩ (.slice A' (l.length - n) (cap - n)) → Only [g] w w' ∧ Rd w' A (l.take n) ∧ ∃ A' cap', RdrV w' g A' cap' (l.drop n) 0 := by
    rintro w' A' hA' rfl
    have P : Only [g] w (w.setCell ⟨g, 0, none⟩ (.slice A' (l.length - n) (cap - n))) := (Only.refl [g] w).setCell (p := ⟨g, 0, none⟩) (.inl (by simp)) _
    have hfar : ∀ a, A' = some a → 0 < (l.drop n).length → a.block < g := by
      intro a ha h0
      have h0 : 0 < l.length := by rw [List.length_drop] at h0; omega
      rcases hA' with ⟨rfl, _⟩ | rfl
      · exact h.far a ha h0
      · cases A with
        | none => cases ha
        | some b => simp at ha; subst ha; rw [show (b.add n).block = b.block by unfold Addr.add; split <;> rfl]; exact h.far b rfl h0
    refine ⟨P, (h.rd.onlyP P (fun a ha h0 => Nat.ne_of_lt (h.far a ha h0))).take n, A', cap - n, ⟨?_, ?_, by simp; omega, by omega, hfar⟩⟩
    · have := h.blk.set_ 0 (.slice A' (l.length - n) (cap - n))
      simpa using this
    · rcases hA' with ⟨rfl, hq⟩ | rfl
      · have : l.drop n = [] := List.eq_nil_of_length_eq_zero (by simp; omega)
        rw [this]; exact fun h0 => absurd h0 (by simp)
      · exact (rd_drop h.rd n).onlyP P (fun a ha h0 => Nat.ne_of_lt (hfar a ha h0))
  replace fin := hide fin
  obtain ⟨k, hk⟩ : ∃ k, l.length = k := ⟨_, rfl⟩
  rw [hk] at c0 hl fin hn
  have hn' : ¬ k < n := by omega
  clear h hk
  by_cases hq : cap = n
  · go_enter Tryz.func128, Tryz.ntmps128
    go_wp2
    go_ret
    exact ⟨by rw [hq]; rfl, fin.out _ A (.inl ⟨rfl, hq⟩) (by rw [hq, Nat.sub_self])⟩
  · go_enter Tryz.func128, Tryz.ntmps128
    go_wp2
    go_ret
    exact ⟨rfl, fin.out _ _ (.inr rfl) rfl⟩
end Go.Proofs.YtkgikodiecmakaaGreatDoor

namespace Go.Proofs.YtkgikodiecmakaaGreatDoor
set_option linter.all false
open Go.RowKit

/-- What reading a field comes to: the fault, the field's parts, what is still to read. -/
structure R where
  e : Int
  n : Int
  text : List Int
  list : List ByteArray
  rest : List Int
def rShort (l : List Int) : R := ⟨3, 0, [], [], l⟩
def rOctet (l : List Int) : R := if l.length < 1 then rShort l else ⟨0, l.getD 0 0, [], [], l.drop 1⟩
/-- The field's memory lies from B on. -/
def FD.new (f : FD) (B : Nat) : Prop := (∀ a, f.tA = some a → B ≤ a.block) ∧ (∀ a, f.lA = some a → B ≤ a.block)
theorem FD.ok.onlyL {w w' : World} {f : FD} {q : Nat} (h : f.ok w) (hb : Only [q] w w') {B : Nat} (hn : f.new B) (hq : q < B) : f.ok w' :=
  { h with
    text := h.text.onlyL hb (fun a ha _ => by have := hn.1 a ha; simp; omega)
    list := h.list.onlyL hb (fun a ha _ => by have := hn.2 a ha; simp; omega) }
theorem FD.new.mono {f : FD} {B B' : Nat} (h : f.new B) (hb : B' ≤ B) : f.new B' := ⟨fun a ha => Nat.le_trans hb (h.1 a ha), fun a ha => Nat.le_trans hb (h.2 a ha)⟩
theorem FD.ok.with {w : World} {f : FD} (h : f.ok w) (k n : Int) : FD.ok w { f with kind := k, n := n } := ⟨h.text, h.list, h.tle, h.tmax, h.lle, h.lmax, h.strs⟩
def FD.soft (f : FD) (w : World) : Prop := ∀ a, f.tA = some a → ∀ i, i < f.text.length → w.frozen? (a.add i) = false
/-- The field can be read, its memory lies from B on, its bytes can be written. -/
structure FD.mine (w : World) (f : FD) (B : Nat) : Prop where
  ok : f.ok w
  new : f.new B
  soft : f.soft w
theorem block_add (a : Addr) (n : Nat) : (a.add n).block = a.block := by unfold Addr.add; split <;> rfl
theorem FD.soft.onlyL {w w' : World} {f : FD} {L : List Nat} (h : f.soft w) (ho : f.ok w) (hb : Only L w w') (hL : ∀ a, f.tA = some a → a.block ∉ L) : f.soft w' := by
  intro a ha i hi
  obtain ⟨b, off, e, hlt, _⟩ := ho.text (by omega)
  rw [ha] at e
  injection e with e
  refine (World.frozen?_of_block (w := w) ?_).trans (h a ha i hi)
  rw [block_add]
  exact hb.block _ (by rw [e]; exact hlt) (hL a ha)
theorem FD.mine.only {w w' : World} {f : FD} {B : Nat} (h : FD.mine w f B) (hb : Only [] w w') : FD.mine w' f B := ⟨h.ok.only hb, h.new, h.soft.onlyL h.ok hb (fun _ _ => by simp)⟩
theorem FD.mine.onlyL {w w' : World} {f : FD} {B q : Nat} (h : FD.mine w f B) (hb : Only [q] w w') (hq : q < B) : FD.mine w' f B := ⟨h.ok.onlyL hb h.new hq, h.new, h.soft.onlyL h.ok hb (fun a ha => by have := h.new.1 a ha; simp; omega)⟩
theorem FD.mine.mono {w : World} {f : FD} {B B' : Nat} (h : FD.mine w f B) (hb : B' ≤ B) : FD.mine w f B' := ⟨h.ok, h.new.mono hb, h.soft⟩
theorem FD.mine.with {w : World} {f : FD} {B : Nat} (h : FD.mine w f B) (k n : Int) : FD.mine w { f with kind := k, n := n } B := ⟨h.ok.with k n, h.new, h.soft⟩
def RPost (w : World) (g : Nat) (r : R) : Ending → World → Prop := fun E w' =>
  Only [g] w w' ∧ ∃ tA tc lA lc, E = .returned (FD.val ⟨0, r.n, tA, tc, r.text, lA, lc, r.list⟩) ∧ FD.mine w' ⟨0, r.n, tA, tc, r.text, lA, lc, r.list⟩ w.heap.size ∧ ∃ A' cap', RdrV w' g A' cap' r.rest r.e
theorem FD.ok.plain (w : World) (k n : Int) : FD.ok w ⟨k, n, none, 0, [], none, 0, []⟩ := ⟨RdG.nil, RdG.nil, by simp, by simp, by simp, by simp, by simp⟩
theorem FD.new.plain (k n : Int) (B : Nat) : FD.new ⟨k, n, none, 0, [], none, 0, []⟩ B := ⟨fun a ha => by simp at ha, fun a ha => by simp at ha⟩
theorem FD.mine.plain (w : World) (k n : Int) (B : Nat) : FD.mine w ⟨k, n, none, 0, [], none, 0, []⟩ B := ⟨FD.ok.plain _ _ _, FD.new.plain _ _ _, fun a ha => by simp at ha⟩
theorem rpost_plain {w w' : World} {g : Nat} {e n : Int} {rest : List Int} {A : Option Addr} {cap : Nat} (h : Only [g] w w') (hr : RdrV w' g A cap rest e) : RPost w g ⟨e, n, [], [], rest⟩ (.returned (.agg #[.int .i64 0, .int .u32 n, .slice none 0 0, .slice none 0 0])) w' :=
  ⟨h, none, 0, none, 0, rfl, FD.mine.plain _ _ _ _, A, cap, hr⟩

/-- A whole field is stored. -/
def W4 (w : World) (q : Nat) (a b c d : Value) : World := (((w.setCell ⟨q, 0, none⟩ a).setCell ⟨q, 1, none⟩ b).setCell ⟨q, 2, none⟩ c).setCell ⟨q, 3, none⟩ d
theorem W4.blk {w : World} {q : Nat} {x0 x1 x2 x3 : Value} (K : Blk w q 86 [x0, x1, x2, x3]) (a b c d : Value) : Blk (W4 w q a b c d) q 86 [a, b, c, d] := (((K.set_ 0 a).set_ 1 b).set_ 2 c).set_ 3 d
theorem W4.only (w : World) (q : Nat) (a b c d : Value) : Only [q] w (W4 w q a b c d) :=
  ((((Only.refl [q] w).setCell (p := ⟨q, 0, none⟩) (.inl (by simp)) a).setCell (p := ⟨q, 1, none⟩) (.inl (by simp)) b).setCell (p := ⟨q, 2, none⟩) (.inl (by simp)) c).setCell (p := ⟨q, 3, none⟩) (.inl (by simp)) d
theorem RdrV.far4 {w w' : World} {g q : Nat} {A : Option Addr} {cap : Nat} {l : List Int} {e : Int} (h : RdrV w g A cap l e) (hb : Only [q] w w') (hq : g < q) : RdrV w' g A cap l e :=
  { h with blk := h.blk.only hb (by simp; omega), rd := h.rd.onlyP hb (fun a ha h0 => by have := h.far a ha h0; omega) }
theorem ret_field {fn : Func} {p : Tmp} {R : Ending → World → Prop} {a : Act} {w : World} {g : Nat} {v0 v1 v2 v3 : Value} (h : fn.results = #[.cell p 86]) (hp : a.tmps.getD p undef = .pointer (some ⟨g, 0, none⟩)) (hd : a.defers = [])
    (hg : Blk w g 86 [v0, v1, v2, v3]) (hR : R (.returned (.agg #[v0, v1, v2, v3])) w) : bodyPost Tryz.prog fn R .ret a w :=
  bodyPost_ret (results_cell_row h _ w g 86 _ (0, 0) _ hp hg Tryz.underlying86 rfl (by kernel_rfl)) hd hR

set_option maxRecDepth 100000 in
set_option maxHeartbeats 3200000 in
theorem octet_any (w : World) (g : Nat) (A : Option Addr) (cap : Nat) (l : List Int) (h : RdrV w g A cap l 0) (hl : ∀ x ∈ l, 0 ≤ x ∧ x < 256) :
    Calls Tryz.prog 110 #[.pointer (some ⟨g, 0, none⟩)] w (RPost w g (rOctet l)) := by
  obtain ⟨w1, hw1⟩ : ∃ w1, w1 = w.alloc (.cells #[.int .i64 0, .int .u32 0, .slice none 0 0, .slice none 0 0] 86) := ⟨_, rfl⟩
  have P1 : Only [] w w1 := by rw [hw1]; exact (Only.refl _ _).alloc _
  have K : Blk w1 w.heap.size 86 [.int .i64 0, .int .u32 0, .slice none 0 0, .slice none 0 0] := by rw [hw1]; exact Blk.new w _ _
  have h1 := h.only P1
  have hgl := h.blk.lt
  by_cases hs : l.length < 1
  · have hr : rOctet l = rShort l := if_pos hs
    rw [hr]
    have T := take_short w1 g A cap l 1 h1 hs (by omega)
    clear hr hs
    go_enter Tryz.func110, Tryz.ntmps110
    go_wp2_with fail
    rw [← hw1]
    replace hw1 := hide hw1
    go_wp2_with fail
    go_call T as e w2 ⟨rfl, R2, P2⟩
    have K2 := K.only P2 (by simp; omega)
    have kn := nil_none
    have f0 := K2.frozen 0
    have f1 := K2.frozen 1
    have f2 := K2.frozen 2
    have f3 := K2.frozen 3
    have c0 : w2.cell? ⟨w.heap.size, 0, none⟩ = some (.int .i64 0) := K2.cell 0
    have c1 : w2.cell? ⟨w.heap.size, 1, none⟩ = some (.int .u32 0) := K2.cell 1
    have c2 : w2.cell? ⟨w.heap.size, 2, none⟩ = some (.slice none 0 0) := K2.cell 2
    have c3 : w2.cell? ⟨w.heap.size, 3, none⟩ = some (.slice none 0 0) := K2.cell 3
    go_wp2_with fail
    (try simp only [Exit.inBlock, Exit.then])
    refine ret_field (v0 := .int .i64 0) (v1 := .int .u32 0) (v2 := .slice none 0 0) (v3 := .slice none 0 0) rfl (by rfl) (by rfl) (W4.blk K2 _ _ _ _) (rpost_plain (((P1.mono (by simp)).trans P2 (by simp)).trans (W4.only w2 _ _ _ _ _) (by simp)) (R2.far4 (W4.only _ _ _ _ _ _) hgl))
  · have hr : rOctet l = ⟨0, l.getD 0 0, [], [], l.drop 1⟩ := if_neg hs
    rw [hr]
    have T := take_ok w1 g A cap l 1 h1 (by omega)
    have hx0 : ∃ x, l[0]? = some x ∧ l.getD 0 0 = x ∧ 0 ≤ x ∧ x < 256 := by
      refine ⟨l[0]'(by omega), List.getElem?_eq_getElem (by omega), ?_, hl _ (List.getElem_mem _)⟩
      simp [List.getD, List.getElem?_eq_getElem (show 0 < l.length by omega)]
    obtain ⟨x, hx, hxd, hxa, hxb⟩ := hx0
    rw [hxd]
    have hxt : (l.take 1)[0]? = some x := by rw [List.getElem?_take]; simpa using hx
    obtain ⟨b, off, rfl, _⟩ := h.rd (by omega)
    replace hxt := hide hxt
    replace hx := hide hx
    replace hxd := hide hxd
    clear hr hs
    go_enter Tryz.func110, Tryz.ntmps110
    go_wp2_with fail
    rw [← hw1]
    replace hw1 := hide hw1
    go_wp2_with fail
    go_call T as e w2 ⟨rfl, P2, D2, A2, cap2, R2⟩
    have K2 := K.only P2 (by simp; omega)
    have kn := nil_some
    have f0 := K2.frozen 0
    have f1 := K2.frozen 1
    have f2 := K2.frozen 2
    have f3 := K2.frozen 3
    have c0 : w2.cell? ⟨w.heap.size, 0, none⟩ = some (.int .i64 0) := K2.cell 0
    have c1 : w2.cell? ⟨w.heap.size, 1, none⟩ = some (.int .u32 0) := K2.cell 1
    have c2 : w2.cell? ⟨w.heap.size, 2, none⟩ = some (.slice none 0 0) := K2.cell 2
    have c3 : w2.cell? ⟨w.heap.size, 3, none⟩ = some (.slice none 0 0) := K2.cell 3
    have cx : w2.cell? ⟨b, off, none⟩ = some (.int .u8 x) := by
      obtain ⟨b', off', e, _, hc⟩ := D2 (by simp; have := hx.out; cases l <;> simp at this ⊢)
      injection e with e
      injection e with e1 e2
      subst e1; subst e2
      exact hc 0 x hxt.out
    go_wp2_with fail
    (try simp only [Exit.inBlock, Exit.then])
    refine ret_field (v0 := .int .i64 0) (v1 := .int .u32 x) (v2 := .slice none 0 0) (v3 := .slice none 0 0) rfl (by rfl) (by rfl) (W4.blk K2 _ _ _ _) (rpost_plain (((P1.mono (by simp)).trans P2 (by simp)).trans (W4.only w2 _ _ _ _ _) (by simp)) (by simpa [W4] using R2.far4 (W4.only _ _ _ _ _ _) hgl))

def rFlag (l : List Int) : R := let r := rOctet l; ⟨r.e, min r.n 1, r.text, r.list, r.rest⟩
set_option maxRecDepth 100000 in
set_option maxHeartbeats 3200000 in
theorem flag_any (w : World) (g : Nat) (A : Option Addr) (cap : Nat) (l : List Int) (h : RdrV w g A cap l 0) (hl : ∀ x ∈ l, 0 ≤ x ∧ x < 256) :
    Calls Tryz.prog 112 #[.pointer (some ⟨g, 0, none⟩)] w (RPost w g (rFlag l)) := by
  obtain ⟨w1, hw1⟩ : ∃ w1, w1 = w.alloc (.cells #[.int .i64 0, .int .u32 0, .slice none 0 0, .slice none 0 0] 86) := ⟨_, rfl⟩
  have P1 : Only [] w w1 := by rw [hw1]; exact (Only.refl _ _).alloc _
  have K : Blk w1 w.heap.size 86 [.int .i64 0, .int .u32 0, .slice none 0 0, .slice none 0 0] := by rw [hw1]; exact Blk.new w _ _
  have h1 := h.only P1
  have hgl := h.blk.lt
  have T := octet_any w1 g A cap l h1 hl
  have hz : w.heap.size < w1.heap.size := K.lt
  go_enter Tryz.func112, Tryz.ntmps112
  go_wp2_with fail
  rw [← hw1]
  replace hw1 := hide hw1
  go_wp2_with fail
  go_call T as e w2 ⟨P2, tA, tc, lA, lc, rfl, my2, A2, cap2, R2⟩
  unfold FD.val
  have z2 := P2.size
  have K2 := K.only P2 (by simp; omega)
  have f0 := K2.frozen 0
  have f1 := K2.frozen 1
  have f2 := K2.frozen 2
  have f3 := K2.frozen 3
  have c0 : w2.cell? ⟨w.heap.size, 0, none⟩ = some (.int .i64 0) := K2.cell 0
  have c1 : w2.cell? ⟨w.heap.size, 1, none⟩ = some (.int .u32 0) := K2.cell 1
  have c2 : w2.cell? ⟨w.heap.size, 2, none⟩ = some (.slice none 0 0) := K2.cell 2
  have c3 : w2.cell? ⟨w.heap.size, 3, none⟩ = some (.slice none 0 0) := K2.cell 3
  have hlt : w.heap.size < w2.heap.size := by omega
  have hn1 : ¬ w.heap.size = w2.heap.size := by omega
  have hn2 : ¬ w2.heap.size = w.heap.size := by omega
  go_wp2_with fail
  (try simp only [Exit.inBlock, Exit.then])
  have O4 : Only [g] w w2 := (P1.mono (by simp)).trans P2 (by simp)
  refine ret_field (v0 := .int .i64 0) (v1 := .int .u32 (min (rOctet l).n 1)) (v2 := .slice tA (rOctet l).text.length tc) (v3 := .slice lA (rOctet l).list.length lc) rfl (by rfl) (by rfl) ((W4.blk K2 _ _ _ _).alloc _) ?_
  have Q4 := W4.only w2 w.heap.size (.int .i64 0) (.int .u32 (min (rOctet l).n 1)) (.slice tA (rOctet l).text.length tc) (.slice lA (rOctet l).list.length lc)
  exact ⟨(O4.trans Q4 (by simp)).alloc _, tA, tc, lA, lc, rfl, (((my2.with 0 _).onlyL Q4 hz).only ((Only.refl _ _).alloc _)).mono (by omega), A2, cap2, (R2.far4 Q4 hgl).only ((Only.refl _ _).alloc _)⟩
end Go.Proofs.YtkgikodiecmakaaGreatDoor

namespace Go.Proofs.YtkgikodiecmakaaGreatDoor
set_option linter.all false
open Go.RowKit

/-- Four bytes, the highest first. -/
def be4 (l : List Int) : Int := l.getD 0 0 * 16777216 + l.getD 1 0 * 65536 + l.getD 2 0 * 256 + l.getD 3 0
def rNumber (l : List Int) : R := if l.length < 4 then rShort l else ⟨0, be4 l, [], [], l.drop 4⟩
theorem or_turn (a b : Int) (h1 : 0 ≤ a) (h2 : a < 4294967296) (h3 : 0 ≤ b) (h4 : b < 4294967296) : bits .or .u32 a b = bits .or .u32 b a := by
  rw [u32_or a b h1 h2 h3 h4, u32_or b a h3 h4 h1 h2, Nat.or_comm]

set_option maxRecDepth 100000 in
set_option maxHeartbeats 3200000 in
theorem number_any (w : World) (g : Nat) (A : Option Addr) (cap : Nat) (l : List Int) (h : RdrV w g A cap l 0) (hl : ∀ x ∈ l, 0 ≤ x ∧ x < 256) :
    Calls Tryz.prog 115 #[.pointer (some ⟨g, 0, none⟩)] w (RPost w g (rNumber l)) := by
  obtain ⟨w1, hw1⟩ : ∃ w1, w1 = w.alloc (.cells #[.int .i64 0, .int .u32 0, .slice none 0 0, .slice none 0 0] 86) := ⟨_, rfl⟩
  have P1 : Only [] w w1 := by rw [hw1]; exact (Only.refl _ _).alloc _
  have K : Blk w1 w.heap.size 86 [.int .i64 0, .int .u32 0, .slice none 0 0, .slice none 0 0] := by rw [hw1]; exact Blk.new w _ _
  have h1 := h.only P1
  have hgl := h.blk.lt
  by_cases hs : l.length < 4
  · have hr : rNumber l = rShort l := if_pos hs
    rw [hr]
    have T := take_short w1 g A cap l 4 h1 hs (by omega)
    clear hr hs
    go_enter Tryz.func115, Tryz.ntmps115
    go_wp2_with fail
    rw [← hw1]
    replace hw1 := hide hw1
    go_wp2_with fail
    go_call T as e w2 ⟨rfl, R2, P2⟩
    have K2 := K.only P2 (by simp; omega)
    have kn := nil_none
    have f0 := K2.frozen 0
    have f1 := K2.frozen 1
    have f2 := K2.frozen 2
    have f3 := K2.frozen 3
    have c0 : w2.cell? ⟨w.heap.size, 0, none⟩ = some (.int .i64 0) := K2.cell 0
    have c1 : w2.cell? ⟨w.heap.size, 1, none⟩ = some (.int .u32 0) := K2.cell 1
    have c2 : w2.cell? ⟨w.heap.size, 2, none⟩ = some (.slice none 0 0) := K2.cell 2
    have c3 : w2.cell? ⟨w.heap.size, 3, none⟩ = some (.slice none 0 0) := K2.cell 3
    go_wp2_with fail
    (try simp only [Exit.inBlock, Exit.then])
    refine ret_field (v0 := .int .i64 0) (v1 := .int .u32 0) (v2 := .slice none 0 0) (v3 := .slice none 0 0) rfl (by rfl) (by rfl) (W4.blk K2 _ _ _ _) (rpost_plain (((P1.mono (by simp)).trans P2 (by simp)).trans (W4.only w2 _ _ _ _ _) (by simp)) (R2.far4 (W4.only _ _ _ _ _ _) hgl))
  · have hr : rNumber l = ⟨0, be4 l, [], [], l.drop 4⟩ := if_neg hs
    rw [hr]
    have T := take_ok w1 g A cap l 4 h1 (by omega)
    have hx : ∀ k, k < 4 → ∃ x, l[k]? = some x ∧ l.getD k 0 = x ∧ 0 ≤ x ∧ x < 256 := by
      intro k hk
      refine ⟨l[k]'(by omega), List.getElem?_eq_getElem (by omega), ?_, hl _ (List.getElem_mem _)⟩
      simp [List.getD, List.getElem?_eq_getElem (show k < l.length by omega)]
    obtain ⟨x0, hx0, hd0, a0, b0⟩ := hx 0 (by omega)
    obtain ⟨x1, hx1, hd1, a1, b1⟩ := hx 1 (by omega)
    obtain ⟨x2, hx2, hd2, a2, b2⟩ := hx 2 (by omega)
    obtain ⟨x3, hx3, hd3, a3, b3⟩ := hx 3 (by omega)
    obtain ⟨y0, hy0⟩ : ∃ y, y = x0 * 16777216 := ⟨_, rfl⟩
    obtain ⟨y1, hy1⟩ : ∃ y, y = x1 * 65536 := ⟨_, rfl⟩
    obtain ⟨y2, hy2⟩ : ∃ y, y = x2 * 256 := ⟨_, rfl⟩
    obtain ⟨z1, hz1⟩ : ∃ y, y = y0 + y1 := ⟨_, rfl⟩
    obtain ⟨z2, hz2⟩ : ∃ y, y = z1 + y2 := ⟨_, rfl⟩
    obtain ⟨N, hN⟩ : ∃ y, y = z2 + x3 := ⟨_, rfl⟩
    have s0 : IntKind.u32.wrap (x0 * 16777216) = y0 := by rw [hy0]; exact u32_wrap_id _ (by omega) (by omega)
    have s1 : IntKind.u32.wrap (x1 * 65536) = y1 := by rw [hy1]; exact u32_wrap_id _ (by omega) (by omega)
    have s2 : IntKind.u32.wrap (x2 * 256) = y2 := by rw [hy2]; exact u32_wrap_id _ (by omega) (by omega)
    have e0 : IntKind.u32.wrap x0 = x0 := u32_wrap_id _ a0 (by omega)
    have e1 : IntKind.u32.wrap x1 = x1 := u32_wrap_id _ a1 (by omega)
    have e2 : IntKind.u32.wrap x2 = x2 := u32_wrap_id _ a2 (by omega)
    have e3 : IntKind.u32.wrap x3 = x3 := u32_wrap_id _ a3 (by omega)
    have o1 : bits .or .u32 y0 y1 = z1 := by rw [or_turn y0 y1 (by omega) (by omega) (by omega) (by omega), u32_or24 _ _ (by omega) (by omega) (by omega) (by omega) (by omega)]; omega
    have o2 : bits .or .u32 z1 y2 = z2 := by rw [or_turn z1 y2 (by omega) (by omega) (by omega) (by omega), u32_or16 _ _ (by omega) (by omega) (by omega) (by omega) (by omega)]; omega
    have o3 : bits .or .u32 z2 x3 = N := by rw [or_turn z2 x3 (by omega) (by omega) (by omega) (by omega), u32_or8 _ _ (by omega) (by omega) (by omega) (by omega) (by omega)]; omega
    have hbe : be4 l = N := by unfold be4; rw [hd0, hd1, hd2, hd3]; omega
    rw [hbe]
    have hh : ∀ w2, Rd w2 A (l.take 4) → ∀ b off, A = some ⟨b, off, none⟩ → w2.cell? ⟨b, off, none⟩ = some (.int .u8 x0) ∧ w2.cell? ⟨b, off + 1, none⟩ = some (.int .u8 x1) ∧ w2.cell? ⟨b, off + 2, none⟩ = some (.int .u8 x2) ∧ w2.cell? ⟨b, off + 3, none⟩ = some (.int .u8 x3) := by
      intro w2 D b off hA
      obtain ⟨b', off', e, _, hc⟩ := D (by simp; omega)
      rw [hA] at e
      injection e with e
      injection e with e1 e2
      subst e1; subst e2
      refine ⟨hc 0 x0 ?_, hc 1 x1 ?_, hc 2 x2 ?_, hc 3 x3 ?_⟩ <;> rw [List.getElem?_take] <;> simpa
    replace hh := hide hh
    clear hy0 hy1 hy2 hz1 hz2 hN hbe hd0 hd1 hd2 hd3 hx hx0 hx1 hx2 hx3 hr
    obtain ⟨b, off, rfl, _⟩ := h.rd (by omega)
    clear hs
    go_enter Tryz.func115, Tryz.ntmps115
    go_wp2_with fail
    rw [← hw1]
    replace hw1 := hide hw1
    go_wp2_with fail
    go_call T as e w2 ⟨rfl, P2, D2, A2, cap2, R2⟩
    have K2 := K.only P2 (by simp; omega)
    have kn := nil_some
    have hI : (fun w' : World => w'.cell? ⟨b, off, none⟩ = some (.int .u8 x0) ∧ w'.cell? ⟨b, off + 1, none⟩ = some (.int .u8 x1) ∧ w'.cell? ⟨b, off + 2, none⟩ = some (.int .u8 x2) ∧ w'.cell? ⟨b, off + 3, none⟩ = some (.int .u8 x3)) { w2 with drawn := w2.drawn + 1 } := hh.out w2 D2 b off rfl
    go_wp2_with fail
    refine wp_region_E (fun w' : World => w'.cell? ⟨b, off, none⟩ = some (.int .u8 x0) ∧ w'.cell? ⟨b, off + 1, none⟩ = some (.int .u8 x1) ∧ w'.cell? ⟨b, off + 2, none⟩ = some (.int .u8 x2) ∧ w'.cell? ⟨b, off + 3, none⟩ = some (.int .u8 x3)) [23] (by kernel_rfl) ?_
    refine wpAnyE_take 0 (v := (.slice (some ⟨b, off, none⟩) 4 cap)) rfl (by kernel_rfl) (fun _ _ _ h => h) hI (fun w' hw' => Or.inl ⟨by rfl, Or.inl (by obtain ⟨i0, i1, i2, i3⟩ := hw'; go_simp)⟩) ?_
    refine wpAnyE_take 1 (v := (.pointer (some ⟨b, off, none⟩))) rfl (by kernel_rfl) (fun _ _ _ h => h) hI (fun w' hw' => Or.inl ⟨by rfl, Or.inl (by obtain ⟨i0, i1, i2, i3⟩ := hw'; go_simp)⟩) ?_
    refine wpAnyE_take 2 (v := (.int .u8 x0)) rfl (by kernel_rfl) (fun _ _ _ h => h) hI (fun w' hw' => Or.inl ⟨by rfl, Or.inl (by obtain ⟨i0, i1, i2, i3⟩ := hw'; go_simp)⟩) ?_
    refine wpAnyE_take 3 (v := (.int .u32 x0)) rfl (by kernel_rfl) (fun _ _ _ h => h) hI (fun w' hw' => Or.inl ⟨by rfl, Or.inl (by obtain ⟨i0, i1, i2, i3⟩ := hw'; go_simp)⟩) ?_
    refine wpAnyE_take 4 (v := (.int .u32 y0)) rfl (by kernel_rfl) (fun _ _ _ h => h) hI (fun w' hw' => Or.inl ⟨by rfl, Or.inl (by obtain ⟨i0, i1, i2, i3⟩ := hw'; go_simp)⟩) ?_
    refine wpAnyE_take 5 (v := (.slice (some ⟨b, off, none⟩) 4 cap)) rfl (by kernel_rfl) (fun _ _ _ h => h) hI (fun w' hw' => Or.inl ⟨by rfl, Or.inl (by obtain ⟨i0, i1, i2, i3⟩ := hw'; go_simp)⟩) ?_
    refine wpAnyE_take 6 (v := (.pointer (some ⟨b, off + 1, none⟩))) rfl (by kernel_rfl) (fun _ _ _ h => h) hI (fun w' hw' => Or.inl ⟨by rfl, Or.inl (by obtain ⟨i0, i1, i2, i3⟩ := hw'; go_simp)⟩) ?_
    refine wpAnyE_take 7 (v := (.int .u8 x1)) rfl (by kernel_rfl) (fun _ _ _ h => h) hI (fun w' hw' => Or.inl ⟨by rfl, Or.inl (by obtain ⟨i0, i1, i2, i3⟩ := hw'; go_simp)⟩) ?_
    refine wpAnyE_take 8 (v := (.int .u32 x1)) rfl (by kernel_rfl) (fun _ _ _ h => h) hI (fun w' hw' => Or.inl ⟨by rfl, Or.inl (by obtain ⟨i0, i1, i2, i3⟩ := hw'; go_simp)⟩) ?_
    refine wpAnyE_take 9 (v := (.int .u32 y1)) rfl (by kernel_rfl) (fun _ _ _ h => h) hI (fun w' hw' => Or.inl ⟨by rfl, Or.inl (by obtain ⟨i0, i1, i2, i3⟩ := hw'; go_simp)⟩) ?_
    refine wpAnyE_take 10 (v := (.int .u32 z1)) rfl (by kernel_rfl) (fun _ _ _ h => h) hI (fun w' hw' => Or.inl ⟨by rfl, Or.inl (by obtain ⟨i0, i1, i2, i3⟩ := hw'; go_simp)⟩) ?_
    refine wpAnyE_take 11 (v := (.slice (some ⟨b, off, none⟩) 4 cap)) rfl (by kernel_rfl) (fun _ _ _ h => h) hI (fun w' hw' => Or.inl ⟨by rfl, Or.inl (by obtain ⟨i0, i1, i2, i3⟩ := hw'; go_simp)⟩) ?_
    refine wpAnyE_take 12 (v := (.pointer (some ⟨b, off + 2, none⟩))) rfl (by kernel_rfl) (fun _ _ _ h => h) hI (fun w' hw' => Or.inl ⟨by rfl, Or.inl (by obtain ⟨i0, i1, i2, i3⟩ := hw'; go_simp)⟩) ?_
    refine wpAnyE_take 13 (v := (.int .u8 x2)) rfl (by kernel_rfl) (fun _ _ _ h => h) hI (fun w' hw' => Or.inl ⟨by rfl, Or.inl (by obtain ⟨i0, i1, i2, i3⟩ := hw'; go_simp)⟩) ?_
    refine wpAnyE_take 14 (v := (.int .u32 x2)) rfl (by kernel_rfl) (fun _ _ _ h => h) hI (fun w' hw' => Or.inl ⟨by rfl, Or.inl (by obtain ⟨i0, i1, i2, i3⟩ := hw'; go_simp)⟩) ?_
    refine wpAnyE_take 15 (v := (.int .u32 y2)) rfl (by kernel_rfl) (fun _ _ _ h => h) hI (fun w' hw' => Or.inl ⟨by rfl, Or.inl (by obtain ⟨i0, i1, i2, i3⟩ := hw'; go_simp)⟩) ?_
    refine wpAnyE_take 16 (v := (.int .u32 z2)) rfl (by kernel_rfl) (fun _ _ _ h => h) hI (fun w' hw' => Or.inl ⟨by rfl, Or.inl (by obtain ⟨i0, i1, i2, i3⟩ := hw'; go_simp)⟩) ?_
    refine wpAnyE_take 17 (v := (.slice (some ⟨b, off, none⟩) 4 cap)) rfl (by kernel_rfl) (fun _ _ _ h => h) hI (fun w' hw' => Or.inl ⟨by rfl, Or.inl (by obtain ⟨i0, i1, i2, i3⟩ := hw'; go_simp)⟩) ?_
    refine wpAnyE_take 18 (v := (.pointer (some ⟨b, off + 3, none⟩))) rfl (by kernel_rfl) (fun _ _ _ h => h) hI (fun w' hw' => Or.inl ⟨by rfl, Or.inl (by obtain ⟨i0, i1, i2, i3⟩ := hw'; go_simp)⟩) ?_
    refine wpAnyE_take 19 (v := (.int .u8 x3)) rfl (by kernel_rfl) (fun _ _ _ h => h) hI (fun w' hw' => Or.inl ⟨by rfl, Or.inl (by obtain ⟨i0, i1, i2, i3⟩ := hw'; go_simp)⟩) ?_
    refine wpAnyE_take 20 (v := (.int .u32 x3)) rfl (by kernel_rfl) (fun _ _ _ h => h) hI (fun w' hw' => Or.inl ⟨by rfl, Or.inl (by obtain ⟨i0, i1, i2, i3⟩ := hw'; go_simp)⟩) ?_
    refine wpAnyE_take 21 (v := (.int .u32 N)) rfl (by kernel_rfl) (fun _ _ _ h => h) hI (fun w' hw' => Or.inl ⟨by rfl, Or.inl (by obtain ⟨i0, i1, i2, i3⟩ := hw'; go_simp)⟩) ?_
    refine wpAnyE_take 22 (v := (.agg #[.int .i64 0, .int .u32 N, .slice none 0 0, .slice none 0 0])) rfl (by kernel_rfl) (fun _ _ _ h => h) hI (fun w' hw' => Or.inl ⟨by rfl, Or.inl (by obtain ⟨i0, i1, i2, i3⟩ := hw'; go_simp)⟩) ?_
    refine wpAnyE_tail 23 [] [23] rfl (by kernel_rfl) (by decide) hI ?_
    simp only [List.drop_succ_cons, List.drop_zero]
    refine wpListI_zero ?_
    have f0 := K2.frozen 0
    have f1 := K2.frozen 1
    have f2 := K2.frozen 2
    have f3 := K2.frozen 3
    have c0 : w2.cell? ⟨w.heap.size, 0, none⟩ = some (.int .i64 0) := K2.cell 0
    have c1 : w2.cell? ⟨w.heap.size, 1, none⟩ = some (.int .u32 0) := K2.cell 1
    have c2 : w2.cell? ⟨w.heap.size, 2, none⟩ = some (.slice none 0 0) := K2.cell 2
    have c3 : w2.cell? ⟨w.heap.size, 3, none⟩ = some (.slice none 0 0) := K2.cell 3
    go_wp2
    (try simp only [Exit.inBlock, Exit.then])
    refine ret_field (v0 := .int .i64 0) (v1 := .int .u32 N) (v2 := .slice none 0 0) (v3 := .slice none 0 0) rfl (by rfl) (by rfl) (W4.blk K2 _ _ _ _).drew (rpost_plain (((P1.mono (by simp)).trans P2 (by simp)).trans (W4.only w2 _ _ _ _ _) (by simp)).drew ((R2.far4 (W4.only _ _ _ _ _ _) hgl).only (Only.refl _ _).drew))
end Go.Proofs.YtkgikodiecmakaaGreatDoor
