/- append(s, x...) under a guard that is met; over slices of bytes, no condition. -/
import Derived.Test.YtdmjabfjkkjhbaaDoorApp3
namespace Go.Proofs.YtdmjabfjkkjhbaaDoor
set_option linter.all false
open Go.RowKit

theorem wpList_app3g {w : World} {ops : Array Oper} {rest : List Oper} {o : Oper} {a : Act} {Q : Exit → Act → World → Prop} (hgd : Region.wanted o (yielded ops a.tmps) = true) (s x : Operand)
    (ho : o.op = .call { callee := .builtin .append, args := #[s, x], argTypes := #[23, 23] })
    (base : Nat) (v : Value) (l : List Int) (hs : a.eval s = v) (hown : OwnB w base v l) (A : Option Addr) (c : Nat) (m : List Int) (k : Nat) (hk : m.length = k) (hx : a.eval x = .slice A k c) (hr : Rd w A m)
    (hlen : l.length + m.length ≤ 140737488355328) (hbase : base ≤ w.heap.size)
    (h : ∀ v' w', Hid (OwnB w' base v' (l ++ m)) → Only v.ownBlock.toList w w' → Hid (v'.ownBlock = v.ownBlock ∨ v'.ownBlock = some w.heap.size) → wpList Tryd.prog ops Q rest (a.put o.dst v') w') : wpList Tryd.prog ops Q (o :: rest) a w := by
  subst hk
  refine wpList_step fun K hK => ?_
  rw [if_pos hgd]
  obtain ⟨v', w', hrun, h1, h2, _, h3⟩ := run_app2 o.type base v l hown A c m hr hlen hbase
  unfold Oper.wp execOp
  simp only [ho, resolve, invoke, builtin, Sem.run_bind, Sem.run_pure, Result.andThen_ok, List.map_toArray, List.map_cons, List.map_nil, hs, hx, hrun]
  exact hK _ _ (h v' w' h1 h2 h3)
end Go.Proofs.YtdmjabfjkkjhbaaDoor
