/- append to a slice of bytes of the call's own, as one step of a region that draws its order; no condition. -/
import Derived.Test.YtdmjabfjkkjhbaaDoorApp2
import Derived.Deep.RegionLaw
namespace Go.Proofs.YtdmjabfjkkjhbaaDoor
set_option linter.all false
open Go.RowKit

theorem OwnB.form {w : World} {base : Nat} {v : Value} {l : List Int} (h : OwnB w base v l) (h0 : 0 < l.length) : ∃ g cap, v = .slice (some ⟨g, 0, none⟩) l.length cap ∧ base ≤ g ∧ g < w.heap.size := by
  rcases h.2 with ⟨_, hn⟩ | ⟨g, cap, cur, e, hg, hh, _⟩
  · omega
  · exact ⟨g, cap, e, hg, (Array.getElem?_eq_some_iff.1 hh).1⟩

def Where (v : Value) (g H : Nat) : Prop := v.ownBlock = some g ∨ g = H
theorem step_app {w : World} {ops : Array Oper} {o : Oper} {a : Act} {K : Act → World → Prop} {Q : Exit → Act → World → Prop} {E : Prop} (hgd : o.guard = none) (s x : Operand)
    (ho : o.op = .call { callee := .builtin .append, args := #[s, x], argTypes := #[23, 23] })
    (base : Nat) (v : Value) (l : List Int) (hs : a.eval s = v) (hown : OwnB w base v l) (A : Option Addr) (c : Nat) (m : List Int) (k : Nat) (hk : m.length = k) (hx : a.eval x = .slice A k c) (hr : Rd w A m) (h0 : 0 < k)
    (hlen : l.length + m.length ≤ 140737488355328) (hbase : base ≤ w.heap.size)
    (h : ∀ g cap w', Hid (OwnB w' base (.slice (some ⟨g, 0, none⟩) (l.length + k) cap) (l ++ m)) → Only v.ownBlock.toList w w' → Hid (Where v g w.heap.size) → K (a.put o.dst (.slice (some ⟨g, 0, none⟩) (l.length + k) cap)) w') :
    if Region.wanted o (yielded ops a.tmps) = true then Oper.wp Tryd.prog o a w K Q else E := by
  have hw : Region.wanted o (yielded ops a.tmps) = true := by simp [Region.wanted, hgd]
  rw [if_pos hw]
  subst hk
  obtain ⟨v', w', hrun, h1, h2, _, h3⟩ := run_app2 o.type base v l hown A c m hr hlen hbase
  obtain ⟨g, cap, rfl, hg, hgl⟩ := h1.form (by simp; omega)
  unfold Oper.wp execOp
  simp only [ho, resolve, invoke, builtin, Sem.run_bind, Sem.run_pure, Result.andThen_ok, List.map_toArray, List.map_cons, List.map_nil, hs, hx, hrun]
  have hh := h g cap w' (by rw [← List.length_append]; exact h1) h2 (by
    show Where v g w.heap.size
    rcases h3 with h3 | h3
    · left; rw [← h3]; rfl
    · right; simpa [Value.ownBlock] using h3)
  rw [← List.length_append] at hh
  exact hh

theorem wpList_app3 {w : World} {ops : Array Oper} {rest : List Oper} {o : Oper} {a : Act} {Q : Exit → Act → World → Prop} (hgd : o.guard = none) (s x : Operand)
    (ho : o.op = .call { callee := .builtin .append, args := #[s, x], argTypes := #[23, 23] })
    (base : Nat) (v : Value) (l : List Int) (hs : a.eval s = v) (hown : OwnB w base v l) (A : Option Addr) (c : Nat) (m : List Int) (k : Nat) (hk : m.length = k) (hx : a.eval x = .slice A k c) (hr : Rd w A m)
    (hlen : l.length + m.length ≤ 140737488355328) (hbase : base ≤ w.heap.size)
    (h : ∀ v' w', Hid (OwnB w' base v' (l ++ m)) → Only v.ownBlock.toList w w' → Hid (v'.ownBlock = v.ownBlock ∨ v'.ownBlock = some w.heap.size) → wpList Tryd.prog ops Q rest (a.put o.dst v') w') : wpList Tryd.prog ops Q (o :: rest) a w := by
  subst hk
  exact wpList_app2 hgd s x ho base v l hs hown A c m hx hr hlen hbase h

theorem rd_one (w : World) (x : Int) : Rd (w.alloc (.cells #[.int .u8 x] 5)) (some ⟨w.heap.size, 0, none⟩) [x] := fun _ => ⟨w.heap.size, 0, rfl, by simp, fun i v hi => by
  match i, hi with
  | 0, hi => simp at hi; subst hi; simp [World.cell?_alloc_mark]⟩

def Where2 (v v' : Value) (H : Nat) : Prop := v'.ownBlock = v.ownBlock ∨ v'.ownBlock = some H
/-- append(s, x...) as one step, whatever x's length. -/
theorem step_app0 {w : World} {ops : Array Oper} {o : Oper} {a : Act} {K : Act → World → Prop} {Q : Exit → Act → World → Prop} {E : Prop} (hgd : o.guard = none) (s x : Operand)
    (ho : o.op = .call { callee := .builtin .append, args := #[s, x], argTypes := #[23, 23] })
    (base : Nat) (v : Value) (l : List Int) (hs : a.eval s = v) (hown : OwnB w base v l) (A : Option Addr) (c : Nat) (m : List Int) (k : Nat) (hk : m.length = k) (hx : a.eval x = .slice A k c) (hr : Rd w A m)
    (hlen : l.length + m.length ≤ 140737488355328) (hbase : base ≤ w.heap.size)
    (h : ∀ A' cap w', Hid (OwnB w' base (.slice A' (l.length + k) cap) (l ++ m)) → Only v.ownBlock.toList w w' → Hid (Where2 v (.slice A' (l.length + k) cap) w.heap.size) → K (a.put o.dst (.slice A' (l.length + k) cap)) w') :
    if Region.wanted o (yielded ops a.tmps) = true then Oper.wp Tryd.prog o a w K Q else E := by
  have hw : Region.wanted o (yielded ops a.tmps) = true := by simp [Region.wanted, hgd]
  rw [if_pos hw]
  subst hk
  obtain ⟨v', w', hrun, h1, h2, _, h3⟩ := run_app2 o.type base v l hown A c m hr hlen hbase
  obtain ⟨A', cap, rfl, _⟩ := h1.rd
  unfold Oper.wp execOp
  simp only [ho, resolve, invoke, builtin, Sem.run_bind, Sem.run_pure, Result.andThen_ok, List.map_toArray, List.map_cons, List.map_nil, hs, hx, hrun]
  rw [List.length_append] at h1 h3 ⊢
  exact h A' cap w' h1 h2 h3
end Go.Proofs.YtdmjabfjkkjhbaaDoor
