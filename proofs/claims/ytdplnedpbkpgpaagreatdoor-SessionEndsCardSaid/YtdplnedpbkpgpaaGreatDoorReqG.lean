/- Layer 4: a kind's rule, its name; no condition. -/
import Derived.Test.YtdplnedpbkpgpaaGreatDoorReqF
namespace Go.Proofs.YtdplnedpbkpgpaaGreatDoor
set_option linter.all false
open Go.RowKit

/-- Two results, the first one in memory. -/
theorem ret_row_tmp {P : Program} {fn : Func} {p t : Tmp} {T : TypeId} {R : Ending → World → Prop} {a : Act} {w : World} {g : Nat} {d : TypeDesc} (cs : Array Value) (h : fn.results = #[.cell p T, .tmp t]) (hp : a.tmps.getD p undef = .pointer (some ⟨g, 0, none⟩)) (hd : a.defers = [])
    (hg : w.heap[g]? = some (.cells cs T (0, 0))) (hu : P.underlying T = some d) (hk : (match d with | .struct _ | .array _ _ => true | _ => false) = true) (hs : (P.info? T).map (·.size) = some cs.size)
    (hR : R (.returned (.tuple #[.agg cs, a.tmps.getD t undef])) w) : bodyPost P fn R .ret a w := by
  refine bodyPost_ret (v := .tuple #[.agg cs, a.tmps.getD t undef]) ?_ hd hR
  have hp' : a.tmps[p]?.getD undef = .pointer (some ⟨g, 0, none⟩) := by simpa using hp
  simp [results, h, hp', asAddr, run_loadVar_row (P := P) w g T T cs (0, 0) d hg hu hk hs]
def ruleV (k : Nat) (KA : Option Addr) : Value := .agg #[.string (rname k), .slice KA (rkinds k).length (rkinds k).length, rfn (rget k), rfn (rput k), rfn (rask k)]
/-- A rule handed on. -/
def RulePost (w : World) (k : Nat) : Ending → World → Prop := fun e w' => Only [] w w' ∧ ∃ KA : Option Addr, e = .returned (.tuple #[ruleV k KA, .bool true]) ∧ RdI w' KA (rkinds k)
theorem rule_index (q k : Nat) (h1 : 1 ≤ k) (h2 : k ≤ 10) (w : World) : (Instr.index 133 (.agg (rtab q)) (.int .i64 (k : Int))).run Tryz.prog w = .ok (ruleV k (kaddr q k)) w := by
  rcases k10 h1 h2 with rfl | rfl | rfl | rfl | rfl | rfl | rfl | rfl | rfl | rfl <;> kernel_rfl
def zrule : Array Value := #[.string ⟨#[]⟩, .slice none 0 0, .nilFunc, .nilFunc, .nilFunc]
theorem rule_row {w : World} {g : Nat} {t : TypeId} {a0 a1 a2 a3 a4 b0 b1 b2 b3 b4 : Value} (h : Blk w g t [a0, a1, a2, a3, a4]) : Blk (((((w.setCell ⟨g, 0, none⟩ b0).setCell ⟨g, 1, none⟩ b1).setCell ⟨g, 2, none⟩ b2).setCell ⟨g, 3, none⟩ b3).setCell ⟨g, 4, none⟩ b4) g t [b0, b1, b2, b3, b4] := (((((h.set_ 0 b0).set_ 1 b1).set_ 2 b2).set_ 3 b3).set_ 4 b4)
theorem rule_only {L : List Nat} {w0 w : World} {g : Nat} {b0 b1 b2 b3 b4 : Value} (hg : g ∈ L ∨ w0.heap.size ≤ g) (h : Only L w0 w) : Only L w0 (((((w.setCell ⟨g, 0, none⟩ b0).setCell ⟨g, 1, none⟩ b1).setCell ⟨g, 2, none⟩ b2).setCell ⟨g, 3, none⟩ b3).setCell ⟨g, 4, none⟩ b4) :=
  (((((h.setCell (p := ⟨g, 0, none⟩) hg _).setCell (p := ⟨g, 1, none⟩) hg _).setCell (p := ⟨g, 2, none⟩) hg _).setCell (p := ⟨g, 3, none⟩) hg _).setCell (p := ⟨g, 4, none⟩) hg _)
set_option maxRecDepth 100000 in
set_option maxHeartbeats 1600000 in
theorem rof_any (k : Nat) (h1 : 1 ≤ k) (h2 : k ≤ 10) (w : World) : Calls Tryz.prog 41 #[.int .i64 (k : Int)] w (RulePost w k) := by
  have i1 : ¬ (k : Int) < 1 := by omega
  have i2 : ¬ (10 : Int) < (k : Int) := by omega
  obtain ⟨w1, hw1⟩ : ∃ w1, w1 = w.alloc (.cells #[.string ⟨#[]⟩, .slice none 0 0, .nilFunc, .nilFunc, .nilFunc] 114) := ⟨_, rfl⟩
  have P1 : Only [] w w1 := by rw [hw1]; exact (Only.refl _ _).alloc _
  have K1 : Blk w1 w.heap.size 114 [.string ⟨#[]⟩, .slice none 0 0, .nilFunc, .nilFunc, .nilFunc] := by rw [hw1]; exact Blk.new w _ _
  have RU := rules_any w1
  have hix := fun w' => rule_index w1.heap.size k h1 h2 w'
  unfold ruleV rfn at hix
  obtain ⟨KA, hKA⟩ : ∃ KA, kaddr w1.heap.size k = KA := ⟨_, rfl⟩
  obtain ⟨tb, htb⟩ : ∃ tb, rtab w1.heap.size = tb := ⟨_, rfl⟩
  obtain ⟨nm, hnm⟩ : ∃ nm, rname k = nm := ⟨_, rfl⟩
  obtain ⟨n, hn⟩ : ∃ n, (rkinds k).length = n := ⟨_, rfl⟩
  obtain ⟨F1, hF1⟩ : ∃ F, rget k = F := ⟨_, rfl⟩
  obtain ⟨F2, hF2⟩ : ∃ F, rput k = F := ⟨_, rfl⟩
  obtain ⟨F3, hF3⟩ : ∃ F, rask k = F := ⟨_, rfl⟩
  rw [hKA, htb, hnm, hn, hF1, hF2, hF3] at hix
  rw [htb] at RU
  have hv : ruleV k KA = .agg #[.string nm, .slice KA n n, .func (Fn.func F1) #[] #[], .func (Fn.func F2) #[] #[], .func (Fn.func F3) #[] #[]] := by unfold ruleV rfn; rw [hnm, hn, hF1, hF2, hF3]
  replace hv := hide hv
  replace hKA := hide hKA
  replace htb := hide htb
  replace hnm := hide hnm
  replace hn := hide hn
  replace hF1 := hide hF1
  replace hF2 := hide hF2
  replace hF3 := hide hF3
  go_enter Tryz.func41, Tryz.ntmps41
  go_wp2_with fail
  rw [← hw1]
  replace hw1 := hide hw1
  go_call RU as e w2 ⟨rfl, P2, z2, R2⟩
  clear RU
  have R2 := R2 k h1 h2
  rw [hKA.out] at R2
  replace z2 := hide z2
  have K2 := K1.only P2 (by simp)
  have c0 := K2.cell 0
  have c1 := K2.cell 1
  have c2 := K2.cell 2
  have c3 := K2.cell 3
  have c4 := K2.cell 4
  have f0 := K2.frozen 0
  have f1 := K2.frozen 1
  have f2 := K2.frozen 2
  have f3 := K2.frozen 3
  have f4 := K2.frozen 4
  simp only [List.getElem?_cons_zero, List.getElem?_cons_succ] at c0 c1 c2 c3 c4
  go_wp2_with fail
  (try simp only [Exit.inBlock, Exit.then])
  refine ret_row_tmp #[.string nm, .slice KA n n, .func (Fn.func F1) #[] #[], .func (Fn.func F2) #[] #[], .func (Fn.func F3) #[] #[]] rfl (by rfl) (by rfl) (rule_row K2) Tryz.underlying114 rfl (by kernel_rfl) ?_
  have O3 := rule_only (L := []) (w0 := w) (g := w.heap.size) (b0 := .string nm) (b1 := .slice KA n n) (b2 := .func (Fn.func F1) #[] #[]) (b3 := .func (Fn.func F2) #[] #[]) (b4 := .func (Fn.func F3) #[] #[]) (.inr (Nat.le_refl _)) (P1.trans P2 (by simp))
  have O4 := rule_only (L := [w.heap.size]) (w0 := w2) (w := w2) (g := w.heap.size) (b0 := .string nm) (b1 := .slice KA n n) (b2 := .func (Fn.func F1) #[] #[]) (b3 := .func (Fn.func F2) #[] #[]) (b4 := .func (Fn.func F3) #[] #[]) (.inl (by simp)) (Only.refl _ _)
  refine ⟨O3, KA, by rw [hv.out]; rfl, RdG.onlyL R2 O4 (fun a ha h0 => ?_)⟩
  rw [← hKA.out] at ha
  have := K1.lt
  unfold kaddr at ha
  split at ha
  · cases ha
  · injection ha with ha
    rw [← ha]
    simp
    omega
set_option maxRecDepth 100000 in
set_option maxHeartbeats 1600000 in
theorem rof_none (k : Int) (h : ¬ (1 ≤ k ∧ k ≤ 10)) (w : World) : Calls Tryz.prog 41 #[.int .i64 k] w fun e w' => Only [] w w' ∧ e = .returned (.tuple #[.agg #[.string ⟨#[]⟩, .slice none 0 0, .nilFunc, .nilFunc, .nilFunc], .bool false]) := by
  have K1 : Blk (w.alloc (.cells #[.string ⟨#[]⟩, .slice none 0 0, .nilFunc, .nilFunc, .nilFunc] 114)) w.heap.size 114 [.string ⟨#[]⟩, .slice none 0 0, .nilFunc, .nilFunc, .nilFunc] := Blk.new w _ _
  have O1 : Only [] w (w.alloc (.cells #[.string ⟨#[]⟩, .slice none 0 0, .nilFunc, .nilFunc, .nilFunc] 114)) := (Only.refl _ _).alloc _
  by_cases h1 : k < 1
  · clear h
    go_enter Tryz.func41, Tryz.ntmps41
    go_wp2_with fail
    (try simp only [Exit.inBlock, Exit.then])
    refine ret_row_tmp #[.string ⟨#[]⟩, .slice none 0 0, .nilFunc, .nilFunc, .nilFunc] rfl (by rfl) (by rfl) K1 Tryz.underlying114 rfl (by kernel_rfl) ?_
    exact ⟨O1, rfl⟩
  · have h2 : 10 < k := by omega
    clear h
    go_enter Tryz.func41, Tryz.ntmps41
    go_wp2_with fail
    (try simp only [Exit.inBlock, Exit.then])
    refine ret_row_tmp #[.string ⟨#[]⟩, .slice none 0 0, .nilFunc, .nilFunc, .nilFunc] rfl (by rfl) (by rfl) K1 Tryz.underlying114 rfl (by kernel_rfl) ?_
    exact ⟨O1, rfl⟩
end Go.Proofs.YtdplnedpbkpgpaaGreatDoor
