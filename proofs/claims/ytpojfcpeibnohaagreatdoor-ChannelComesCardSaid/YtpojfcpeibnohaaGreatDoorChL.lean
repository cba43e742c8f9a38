/- Layer 25: whether steps are more than are looked at; no condition. -/
import Derived.Test.YtpojfcpeibnohaaGreatDoorChK
import Derived.Test.YtpojfcpeibnohaaGreatDoorEngF
import Derived.Test.YtpojfcpeibnohaaGreatDoorReqJ
namespace Go.Proofs.YtpojfcpeibnohaaGreatDoor
set_option linter.all false
set_option maxRecDepth 100000
open Go.RowKit

theorem wrap_next {i n : Nat} (hn : n ≤ maxLen) (h : i < n := by assumption) : Value.int .i64 (IntKind.i64.wrap ((i : Int) + 1)) = (SV.c (.v (.int .i64 (i + 1 : Nat)))).den [] := by
  unfold maxLen at hn
  show Value.int _ _ = Value.int _ _
  rw [IntWalk.i64_in _ (by omega)]
  rfl
theorem opd_len (o : OPD) : o.cells.length = 25 := rfl
theorem elemOp : ElemT Tryz.prog 23 41 25 (Tryz.prog.bytesOf 41) := elemT_of (z := .agg #[.int .i64 0, .int .i64 0, .int .i64 0, .int .u32 0, .int .u32 0, .int .u32 0, .int .u32 0, .int .u32 0, .string ⟨#[]⟩, .string ⟨#[]⟩, .bool false, .slice none 0 0, .int .i64 0, .string ⟨#[]⟩, .string ⟨#[]⟩, .string ⟨#[]⟩, .int .u32 0, .int .u32 0, .int .u32 0, .int .u32 0, .slice none 0 0, .bool false, .int .u32 0, .slice none 0 0, .bool false]) Tryz.underlying23 (by kernel_rfl) (by kernel_rfl) (by decide)
def Fit (ops : List OPD) : Prop := ops.length ≤ 100 ∧ ∀ o ∈ ops, o.small
theorem great25_any (ops : List OPD) (A : Option Addr) (c : Nat) (w : World) (hr : RdX OPD.cells w A ops) (hlen : ops.length ≤ maxLen) : Calls Tryz.prog 7 #[.slice A ops.length c] w fun e w' => ∃ b : Bool, e = .returned (.bool b) ∧ Only [] w w' ∧ (b = false → Fit ops) := by
  refine Hs.enter Tryz.func7 [] [] [] [.c (.v (.slice A ops.length c))] (Mem.start0 w) (by kernel_rfl) (by kernel_rfl) ?_
  have J : ∀ (d i : Nat), ops.length - i = d → i ≤ ops.length → (∀ (j : Nat) (o : OPD), j < i → ops[j]? = some o → o.small) → ∀ (z : Int) (u : Nat → Value), Hs Tryz.prog 7 (fun e w' => ∃ b : Bool, e = .returned (.bool b) ∧ Only [] w w' ∧ (b = false → Fit ops)) (Tryz.f7).ntmps w [] [] ⟨.no, loopAt Tryz.f7 0, pins [(0, .c (.v (.slice A ops.length c))), (6, .c (.v (.slice A ops.length c))), (7, .c (.v (.int .i64 ops.length))), (8, .c (.v (.int .i64 i))), (3, .c (.v (.int .i64 z)))] (.vals u), []⟩ := by
    intro d
    induction d with
    | zero =>
      intro i hd hi hall z u
      refine Hs.run0 300 (fun _ => by kernel_rfl) ?_
      refine Hs.condP ((i : Int) < (ops.length : Int)) (by kernel_rfl) (fun h => by omega) (fun h => ?_)
      refine Hs.run0 300 (fun _ => by kernel_rfl) ?_
      refine Hs.bool 31 (decide ((ops.length : Int) > 100)) (by kernel_rfl) (fun h1 => ?_) (fun h1 => ?_)
      · refine Hs.rung0 [3] 300 (fun _ => by kernel_rfl) ?_
        exact Hs.ret (v := .bool true) Tryz.func7 (by kernel_rfl) fun w' H => ⟨true, rfl, H.only, fun h => by cases h⟩
      · refine Hs.rung0 [3] 300 (fun _ => by kernel_rfl) ?_
        refine Hs.ret (v := .bool (decide (z > 300000))) Tryz.func7 (by kernel_rfl) fun w' H => ⟨_, rfl, H.only, fun _ => ⟨?_, fun o ho => ?_⟩⟩
        · have := of_decide_eq_false h1
          omega
        · obtain ⟨j, hj⟩ := List.mem_iff_getElem?.1 ho
          exact hall j o (by have := (List.getElem?_eq_some_iff.1 hj).1; omega) hj
    | succ d ih =>
      intro i hd hi hall z u
      have hil : i < ops.length := by omega
      have hx : ops[i]? = some (ops[i]'hil) := List.getElem?_eq_getElem hil
      obtain ⟨o, ho⟩ : ∃ o, o = ops[i]'hil := ⟨_, rfl⟩
      rw [← ho] at hx
      clear ho
      refine Hs.run0 300 (fun _ => by kernel_rfl) ?_
      refine Hs.condP ((i : Int) < (ops.length : Int)) (by kernel_rfl) (fun h => ?_) (fun h => by omega)
      refine Hs.run0 300 (fun _ => by kernel_rfl) ?_
      obtain ⟨b, off, hA, _, _⟩ := hr (by omega)
      subst hA
      refine Hs.idx (b := b) (off := off) (c := c) elemOp hil (by kernel_rfl) ?_
      refine Hs.ldx (E := 41) (b := b) (off := off) (i := i) opd_len (.g o.sc) (by kernel_rfl) (fun w' H => hr.only H.only) hx (by kernel_rfl) (by kernel_rfl) (by kernel_rfl) (by kernel_rfl) ?_
      refine Hs.run1 300 (fun _ => by kernel_rfl) fun b0 => ?_
      refine Hs.callX (X := Bool) (fun b => .bool b) (fun b => b = false → o.small) (fun w' H => (rgreat_any o.r w').mono (by
        rintro e w2 ⟨O, b, rfl, hb⟩
        exact ⟨b, rfl, O, fun h => ⟨by have := (hb h).1; omega, by have := (hb h).2.1; omega, by have := (hb h).2.2.1; omega⟩⟩)) (by kernel_rfl) fun g hg => ?_
      refine Hs.run0 300 (fun _ => by kernel_rfl) ?_
      refine Hs.cond g (by kernel_rfl) (fun h1 => ?_) (fun h1 => ?_)
      · refine Hs.run0 300 (fun _ => by kernel_rfl) ?_
        exact Hs.ret (v := .bool true) Tryz.func7 (by kernel_rfl) fun w' H => ⟨true, rfl, H.only, fun h => by cases h⟩
      · refine Hs.run0 300 (fun _ => by kernel_rfl) ?_
        refine Hs.slot 8 (.c (.v (.int .i64 (i + 1 : Nat)))) rfl ((by kernel_rfl : _ = Value.int .i64 (IntKind.i64.wrap ((i : Int) + 1))).trans (wrap_next hlen)) ?_
        refine Hs.loop (by kernel_rfl) ?_
        exact Hs.goto (loopAt Tryz.f7 0) [] [] [(0, .c (.v (.slice (some ⟨b, off, none⟩) ops.length c))), (6, .c (.v (.slice (some ⟨b, off, none⟩) ops.length c))), (7, .c (.v (.int .i64 ops.length))), (8, .c (.v (.int .i64 (i + 1 : Nat)))), (3, .c (.v (.int .i64 (IntKind.i64.wrap (z + IntKind.i64.wrap ((if (100000 : Int) < (o.b.length : Int) then 100000 else (o.b.length : Int)) + (if (100000 : Int) < (o.m.data.length : Int) then 100000 else (o.m.data.length : Int))))))))] (by kernel_rfl) List.nodup_nil (by kernel_rfl) (by kernel_rfl) (fun _ => rfl) (fun u => ih (i + 1) (by omega) (by omega) (fun j o' hj ho' => by
          rcases Nat.lt_or_ge j i with h2 | h2
          · exact hall j o' h2 ho'
          · have e : j = i := by omega
            subst e
            rw [hx] at ho'
            injection ho' with ho'
            subst ho'
            exact hg h1) _ u)
  refine Hs.run0 300 (fun _ => by kernel_rfl) ?_
  refine Hs.loop (by kernel_rfl) ?_
  exact Hs.goto (loopAt Tryz.f7 0) [] [] [(0, .c (.v (.slice A ops.length c))), (6, .c (.v (.slice A ops.length c))), (7, .c (.v (.int .i64 ops.length))), (8, .c (.v (.int .i64 (0 : Nat)))), (3, .c (.v (.int .i64 0)))] (by kernel_rfl) List.nodup_nil (by kernel_rfl) (by kernel_rfl) (fun _ => rfl) (fun u => J _ 0 rfl (by omega) (fun j o hj => by omega) 0 u)
end Go.Proofs.YtpojfcpeibnohaaGreatDoor
