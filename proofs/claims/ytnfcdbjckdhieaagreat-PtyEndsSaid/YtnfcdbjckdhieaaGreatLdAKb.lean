/- Layer 1: the same bytes are the same for the document; for all bytes; no condition. -/
import Derived.Test.YtnfcdbjckdhieaaGreatLdAI
import Derived.Test.YtnfcdbjckdhieaaGreatEngAE
namespace Go.Proofs.YtnfcdbjckdhieaaGreat
set_option linter.all false
set_option maxRecDepth 100000
open Go.RowKit

theorem bytes16_true (A B : Option Addr) (ca cb : Nat) (l : List Int) (n1 n2 : Nat) (hn1 : l.length = n1) (hn2 : l.length = n2) (w : World) (ha : RdX cu8 w A l) (hb : RdX cu8 w B l) (hlen : l.length ≤ maxLen) : Calls Tryz.prog 23 #[.slice A n1 ca, .slice B n2 cb] w fun e w' => e = .returned (.bool true) ∧ Only [] w w' := by
  subst hn1; subst hn2
  refine Hs.enter Tryz.func23 [] [] [] [.c (.v (.slice A l.length ca)), .c (.v (.slice B l.length cb))] (Mem.start0 w) (by kernel_rfl) (by kernel_rfl) ?_
  have J : ∀ (d i : Nat), l.length - i = d → i ≤ l.length → ∀ (u : Nat → Value), Hs Tryz.prog 23 (fun e w' => e = .returned (.bool true) ∧ Only [] w w') (Tryz.f23).ntmps w [] [] ⟨.no, loopAt Tryz.f23 0, pins [(0, .c (.v (.slice A l.length ca))), (1, .c (.v (.slice B l.length cb))), (12, .c (.v (.int .i64 l.length))), (13, .c (.v (.int .i64 (i : Nat))))] (.vals u), []⟩ := by
    intro d
    induction d with
    | zero =>
      intro i hd hi u
      refine Hs.run0 300 (fun _ => by kernel_rfl) ?_
      refine Hs.condP ((i : Int) < (l.length : Int)) (by kernel_rfl) (fun h => by omega) (fun h => ?_)
      refine Hs.run0 300 (fun _ => by kernel_rfl) ?_
      exact Hs.ret (v := .bool true) Tryz.func23 (by kernel_rfl) fun w' H => ⟨rfl, H.only⟩
    | succ d ih =>
      intro i hd hi u
      have hil : i < l.length := by omega
      obtain ⟨x, hx⟩ : ∃ x, l[i]? = some x := ⟨_, List.getElem?_eq_getElem hil⟩
      obtain ⟨ab, aoff, hA, _, _⟩ := ha (by omega)
      obtain ⟨bb, boff, hB, _, _⟩ := hb (by omega)
      subst hA; subst hB
      have c1 := fun w' (O : Only [] w w') => u8_cell (ha.only O) hx
      have c2 := fun w' (O : Only [] w w') => u8_cell (hb.only O) hx
      refine Hs.run0 300 (fun _ => by kernel_rfl) ?_
      refine Hs.condP ((i : Int) < (l.length : Int)) (by kernel_rfl) (fun h => ?_) (fun h => by omega)
      refine Hs.run0 300 (fun _ => by kernel_rfl) ?_
      refine Hs.any [] (by kernel_rfl) ?_
      refine Hs.run0 300 (fun _ => by kernel_rfl) ?_
      refine Hs.takeIdx (rd := []) 2 elemU8 (b := ab) (off := aoff) (c := ca) (len := l.length) (i := i) hil (by kernel_rfl) ?_
      refine Hs.takeIdx (rd := []) 6 elemU8 (b := bb) (off := boff) (c := cb) (len := l.length) (i := i) hil (by kernel_rfl) ?_
      refine Hs.branch2 3 7 (by kernel_rfl) ?_ ?_
      · refine Hs.ldc (E' := 5) (b := ab) (off := aoff + i * 1) (.int .u8 x) (by kernel_rfl) (fun w' H => c1 w' H.only) (by kernel_rfl) ?_
        refine Hs.run0 300 (fun _ => by kernel_rfl) ?_
        refine Hs.ldc (E' := 5) (b := bb) (off := boff + i * 1) (.int .u8 x) (by kernel_rfl) (fun w' H => c2 w' H.only) (by kernel_rfl) ?_
        refine Hs.run0 300 (fun _ => by kernel_rfl) ?_
        refine Hs.cond (x != x) (by kernel_rfl) (fun h => by simp at h) (fun _ => ?_)
        refine Hs.run0 300 (fun _ => by kernel_rfl) ?_
        refine Hs.slot 13 (.c (.v (.int .i64 (i + 1 : Nat)))) rfl ((by kernel_rfl : _ = Value.int .i64 (IntKind.i64.wrap ((i : Int) + 1))).trans (wrap_nextJ hlen)) ?_
        refine Hs.loop (by kernel_rfl) ?_
        exact Hs.goto (loopAt Tryz.f23 0) [] [] [(0, .c (.v (.slice (some ⟨ab, aoff, none⟩) l.length ca))), (1, .c (.v (.slice (some ⟨bb, boff, none⟩) l.length cb))), (12, .c (.v (.int .i64 l.length))), (13, .c (.v (.int .i64 (i + 1 : Nat))))] (by kernel_rfl) (by decide) (by kernel_rfl) (by kernel_rfl) (fun _ => (by kernel_rfl)) (fun u => ih (i + 1) (by omega) (by omega) u)
      · refine Hs.ldc (E' := 5) (b := bb) (off := boff + i * 1) (.int .u8 x) (by kernel_rfl) (fun w' H => c2 w' H.only) (by kernel_rfl) ?_
        refine Hs.run0 300 (fun _ => by kernel_rfl) ?_
        refine Hs.ldc (E' := 5) (b := ab) (off := aoff + i * 1) (.int .u8 x) (by kernel_rfl) (fun w' H => c1 w' H.only) (by kernel_rfl) ?_
        refine Hs.run0 300 (fun _ => by kernel_rfl) ?_
        refine Hs.cond (x != x) (by kernel_rfl) (fun h => by simp at h) (fun _ => ?_)
        refine Hs.run0 300 (fun _ => by kernel_rfl) ?_
        refine Hs.slot 13 (.c (.v (.int .i64 (i + 1 : Nat)))) rfl ((by kernel_rfl : _ = Value.int .i64 (IntKind.i64.wrap ((i : Int) + 1))).trans (wrap_nextJ hlen)) ?_
        refine Hs.loop (by kernel_rfl) ?_
        exact Hs.goto (loopAt Tryz.f23 0) [] [] [(0, .c (.v (.slice (some ⟨ab, aoff, none⟩) l.length ca))), (1, .c (.v (.slice (some ⟨bb, boff, none⟩) l.length cb))), (12, .c (.v (.int .i64 l.length))), (13, .c (.v (.int .i64 (i + 1 : Nat))))] (by kernel_rfl) (by decide) (by kernel_rfl) (by kernel_rfl) (fun _ => (by kernel_rfl)) (fun u => ih (i + 1) (by omega) (by omega) u)
  refine Hs.run0 300 (fun _ => by kernel_rfl) ?_
  refine Hs.cond ((l.length : Int) != (l.length : Int)) (by kernel_rfl) (fun h => by simp at h) (fun _ => ?_)
  refine Hs.run0 300 (fun _ => by kernel_rfl) ?_
  refine Hs.loop (by kernel_rfl) ?_
  exact Hs.goto (loopAt Tryz.f23 0) [] [] [(0, .c (.v (.slice A l.length ca))), (1, .c (.v (.slice B l.length cb))), (12, .c (.v (.int .i64 l.length))), (13, .c (.v (.int .i64 (0 : Nat))))] (by kernel_rfl) (by decide) (by kernel_rfl) (by kernel_rfl) (fun _ => (by kernel_rfl)) (fun u => J _ 0 rfl (by omega) u)
end Go.Proofs.YtnfcdbjckdhieaaGreat
