/- Layer 4: the rules of all kinds; no condition. -/
import Derived.Test.YtdplnedpbkpgpaaGreatDoorReqP
import Derived.Test.YtdplnedpbkpgpaaGreatDoorOctQ
import Derived.Laws.EntriesVeiled
import Derived.Laws.Tables
namespace Go.Proofs.YtdplnedpbkpgpaaGreatDoor
set_option linter.all false
open Go.RowKit

/-- A literal that is built, its cells named. -/
theorem wpList_built {P : Program} {ops : Array Oper} {rest : List Oper} {o : Oper} {a : Act} {w : World} {Q : Exit → Act → World → Prop} (d : Tmp) (hd : o.dst = some d) (hg : o.guard = none) (t : TypeId) (parts : Array (Nat × Operand)) (ho : o.op = .build t parts)
    (cells : Array Value) (hf : P.built t (parts.map fun (i, x) => (i, a.eval x)).toList = some cells)
    (h : wpList P ops Q rest (a.put (some d) (.agg cells)) w) : wpList P ops Q (o :: rest) a w := by
  refine wpList_build hg t parts ho (by rw [hf]; rfl) ?_
  rw [hf, hd]
  exact h
/-- Which of the kinds' blocks. -/
def kidx : Nat → Nat
  | 1 => 1
  | 2 => 2
  | 4 => 3
  | 5 => 4
  | 6 => 5
  | 7 => 6
  | 8 => 7
  | 9 => 8
  | 10 => 9
  | _ => 0
def kaddr (q k : Nat) : Option Addr := match kidx k with
  | 0 => none
  | i + 1 => some ⟨q + (i + 1), 0, none⟩
/-- What gets. -/
def rget : Nat → FuncId
  | 1 => 71
  | 2 => 74
  | 3 => 77
  | 4 => 80
  | 5 => 80
  | 6 => 84
  | 7 => 86
  | 8 => 80
  | 9 => 88
  | _ => 90
/-- What puts. -/
def rput : Nat → FuncId
  | 1 => 72
  | 2 => 75
  | 3 => 78
  | 4 => 81
  | 5 => 81
  | 6 => 85
  | 7 => 87
  | 8 => 81
  | 9 => 89
  | _ => 91
/-- What asks. -/
def rask : Nat → FuncId
  | 1 => 73
  | 2 => 76
  | 3 => 79
  | 4 => 82
  | 5 => 83
  | 6 => 79
  | 7 => 79
  | 8 => 83
  | 9 => 79
  | _ => 92
def rfn (f : FuncId) : Value := .func (Fn.func f) #[] #[]
/-- A rule's cells. -/
def rcells (q k : Nat) : List Value := [.string (rname k), .slice (kaddr q k) (rkinds k).length (rkinds k).length, rfn (rget k), rfn (rput k), rfn (rask k)]
def rcellsA (q k : Nat) : Array Value := (rcells q k).toArray
def zcells : List Value := [.string ⟨#[]⟩, .slice none 0 0, .nilFunc, .nilFunc, .nilFunc]
/-- The rules' cells, their kinds from block q + 1 on. -/
def rtab (q : Nat) : Array Value := (zcells ++ (rcells q 1 ++ (rcells q 2 ++ (rcells q 3 ++ (rcells q 4 ++ (rcells q 5 ++ (rcells q 6 ++ (rcells q 7 ++ (rcells q 8 ++ (rcells q 9 ++ rcells q 10)))))))))).toArray
def ztab : Array Value := (zcells ++ (zcells ++ (zcells ++ (zcells ++ (zcells ++ (zcells ++ (zcells ++ (zcells ++ (zcells ++ (zcells ++ zcells)))))))))).toArray
def rworld (w : World) : World := ((((((((((w.alloc (.cells ztab 133)).alloc (.cells #[.int .i64 4, .int .i64 3, .int .i64 3, .int .i64 3, .int .i64 3, .int .i64 4] 3)).alloc (.cells #[.int .i64 4, .int .i64 4] 3)).alloc (.cells #[.int .i64 4] 3)).alloc (.cells #[.int .i64 4] 3)).alloc (.cells #[.int .i64 3, .int .i64 3, .int .i64 3, .int .i64 3] 3)).alloc (.cells #[.int .i64 2] 3)).alloc (.cells #[.int .i64 4] 3)).alloc (.cells #[.int .i64 3] 3)).alloc (.cells #[.int .i64 4, .int .i64 2, .int .i64 4, .int .i64 4] 3))
theorem rworld_size (w : World) : (rworld w).heap.size = w.heap.size + 10 := by unfold rworld; simp
theorem rworld_tab (w : World) : Blk (rworld w) w.heap.size 133 ztab.toList := (((((((((Blk.new w 133 ztab.toList).alloc _).alloc _).alloc _).alloc _).alloc _).alloc _).alloc _).alloc _).alloc _
theorem rworld_only (w : World) : Only [] w (rworld w) := ((((((((((Only.refl [] w).alloc _).alloc _).alloc _).alloc _).alloc _).alloc _).alloc _).alloc _).alloc _).alloc _
theorem rworld_1 (w : World) : Blk (rworld w) (w.heap.size + 1) 3 [.int .i64 4, .int .i64 3, .int .i64 3, .int .i64 3, .int .i64 3, .int .i64 4] := by
  have h := Blk.new (w.alloc (.cells ztab 133)) 3 [.int .i64 4, .int .i64 3, .int .i64 3, .int .i64 3, .int .i64 3, .int .i64 4]
  rw [show (w.alloc (.cells ztab 133)).heap.size = w.heap.size + 1 by simp] at h
  exact ((((((((h).alloc _).alloc _).alloc _).alloc _).alloc _).alloc _).alloc _).alloc _
theorem rworld_2 (w : World) : Blk (rworld w) (w.heap.size + 2) 3 [.int .i64 4, .int .i64 4] := by
  have h := Blk.new ((w.alloc (.cells ztab 133)).alloc (.cells #[.int .i64 4, .int .i64 3, .int .i64 3, .int .i64 3, .int .i64 3, .int .i64 4] 3)) 3 [.int .i64 4, .int .i64 4]
  rw [show ((w.alloc (.cells ztab 133)).alloc (.cells #[.int .i64 4, .int .i64 3, .int .i64 3, .int .i64 3, .int .i64 3, .int .i64 4] 3)).heap.size = w.heap.size + 2 by simp] at h
  exact (((((((h).alloc _).alloc _).alloc _).alloc _).alloc _).alloc _).alloc _
theorem rworld_4 (w : World) : Blk (rworld w) (w.heap.size + 3) 3 [.int .i64 4] := by
  have h := Blk.new (((w.alloc (.cells ztab 133)).alloc (.cells #[.int .i64 4, .int .i64 3, .int .i64 3, .int .i64 3, .int .i64 3, .int .i64 4] 3)).alloc (.cells #[.int .i64 4, .int .i64 4] 3)) 3 [.int .i64 4]
  rw [show (((w.alloc (.cells ztab 133)).alloc (.cells #[.int .i64 4, .int .i64 3, .int .i64 3, .int .i64 3, .int .i64 3, .int .i64 4] 3)).alloc (.cells #[.int .i64 4, .int .i64 4] 3)).heap.size = w.heap.size + 3 by simp] at h
  exact ((((((h).alloc _).alloc _).alloc _).alloc _).alloc _).alloc _
theorem rworld_5 (w : World) : Blk (rworld w) (w.heap.size + 4) 3 [.int .i64 4] := by
  have h := Blk.new ((((w.alloc (.cells ztab 133)).alloc (.cells #[.int .i64 4, .int .i64 3, .int .i64 3, .int .i64 3, .int .i64 3, .int .i64 4] 3)).alloc (.cells #[.int .i64 4, .int .i64 4] 3)).alloc (.cells #[.int .i64 4] 3)) 3 [.int .i64 4]
  rw [show ((((w.alloc (.cells ztab 133)).alloc (.cells #[.int .i64 4, .int .i64 3, .int .i64 3, .int .i64 3, .int .i64 3, .int .i64 4] 3)).alloc (.cells #[.int .i64 4, .int .i64 4] 3)).alloc (.cells #[.int .i64 4] 3)).heap.size = w.heap.size + 4 by simp] at h
  exact (((((h).alloc _).alloc _).alloc _).alloc _).alloc _
theorem rworld_6 (w : World) : Blk (rworld w) (w.heap.size + 5) 3 [.int .i64 3, .int .i64 3, .int .i64 3, .int .i64 3] := by
  have h := Blk.new (((((w.alloc (.cells ztab 133)).alloc (.cells #[.int .i64 4, .int .i64 3, .int .i64 3, .int .i64 3, .int .i64 3, .int .i64 4] 3)).alloc (.cells #[.int .i64 4, .int .i64 4] 3)).alloc (.cells #[.int .i64 4] 3)).alloc (.cells #[.int .i64 4] 3)) 3 [.int .i64 3, .int .i64 3, .int .i64 3, .int .i64 3]
  rw [show (((((w.alloc (.cells ztab 133)).alloc (.cells #[.int .i64 4, .int .i64 3, .int .i64 3, .int .i64 3, .int .i64 3, .int .i64 4] 3)).alloc (.cells #[.int .i64 4, .int .i64 4] 3)).alloc (.cells #[.int .i64 4] 3)).alloc (.cells #[.int .i64 4] 3)).heap.size = w.heap.size + 5 by simp] at h
  exact ((((h).alloc _).alloc _).alloc _).alloc _
theorem rworld_7 (w : World) : Blk (rworld w) (w.heap.size + 6) 3 [.int .i64 2] := by
  have h := Blk.new ((((((w.alloc (.cells ztab 133)).alloc (.cells #[.int .i64 4, .int .i64 3, .int .i64 3, .int .i64 3, .int .i64 3, .int .i64 4] 3)).alloc (.cells #[.int .i64 4, .int .i64 4] 3)).alloc (.cells #[.int .i64 4] 3)).alloc (.cells #[.int .i64 4] 3)).alloc (.cells #[.int .i64 3, .int .i64 3, .int .i64 3, .int .i64 3] 3)) 3 [.int .i64 2]
  rw [show ((((((w.alloc (.cells ztab 133)).alloc (.cells #[.int .i64 4, .int .i64 3, .int .i64 3, .int .i64 3, .int .i64 3, .int .i64 4] 3)).alloc (.cells #[.int .i64 4, .int .i64 4] 3)).alloc (.cells #[.int .i64 4] 3)).alloc (.cells #[.int .i64 4] 3)).alloc (.cells #[.int .i64 3, .int .i64 3, .int .i64 3, .int .i64 3] 3)).heap.size = w.heap.size + 6 by simp] at h
  exact (((h).alloc _).alloc _).alloc _
theorem rworld_8 (w : World) : Blk (rworld w) (w.heap.size + 7) 3 [.int .i64 4] := by
  have h := Blk.new (((((((w.alloc (.cells ztab 133)).alloc (.cells #[.int .i64 4, .int .i64 3, .int .i64 3, .int .i64 3, .int .i64 3, .int .i64 4] 3)).alloc (.cells #[.int .i64 4, .int .i64 4] 3)).alloc (.cells #[.int .i64 4] 3)).alloc (.cells #[.int .i64 4] 3)).alloc (.cells #[.int .i64 3, .int .i64 3, .int .i64 3, .int .i64 3] 3)).alloc (.cells #[.int .i64 2] 3)) 3 [.int .i64 4]
  rw [show (((((((w.alloc (.cells ztab 133)).alloc (.cells #[.int .i64 4, .int .i64 3, .int .i64 3, .int .i64 3, .int .i64 3, .int .i64 4] 3)).alloc (.cells #[.int .i64 4, .int .i64 4] 3)).alloc (.cells #[.int .i64 4] 3)).alloc (.cells #[.int .i64 4] 3)).alloc (.cells #[.int .i64 3, .int .i64 3, .int .i64 3, .int .i64 3] 3)).alloc (.cells #[.int .i64 2] 3)).heap.size = w.heap.size + 7 by simp] at h
  exact ((h).alloc _).alloc _
theorem rworld_9 (w : World) : Blk (rworld w) (w.heap.size + 8) 3 [.int .i64 3] := by
  have h := Blk.new ((((((((w.alloc (.cells ztab 133)).alloc (.cells #[.int .i64 4, .int .i64 3, .int .i64 3, .int .i64 3, .int .i64 3, .int .i64 4] 3)).alloc (.cells #[.int .i64 4, .int .i64 4] 3)).alloc (.cells #[.int .i64 4] 3)).alloc (.cells #[.int .i64 4] 3)).alloc (.cells #[.int .i64 3, .int .i64 3, .int .i64 3, .int .i64 3] 3)).alloc (.cells #[.int .i64 2] 3)).alloc (.cells #[.int .i64 4] 3)) 3 [.int .i64 3]
  rw [show ((((((((w.alloc (.cells ztab 133)).alloc (.cells #[.int .i64 4, .int .i64 3, .int .i64 3, .int .i64 3, .int .i64 3, .int .i64 4] 3)).alloc (.cells #[.int .i64 4, .int .i64 4] 3)).alloc (.cells #[.int .i64 4] 3)).alloc (.cells #[.int .i64 4] 3)).alloc (.cells #[.int .i64 3, .int .i64 3, .int .i64 3, .int .i64 3] 3)).alloc (.cells #[.int .i64 2] 3)).alloc (.cells #[.int .i64 4] 3)).heap.size = w.heap.size + 8 by simp] at h
  exact (h).alloc _
theorem rworld_10 (w : World) : Blk (rworld w) (w.heap.size + 9) 3 [.int .i64 4, .int .i64 2, .int .i64 4, .int .i64 4] := by
  have h := Blk.new (((((((((w.alloc (.cells ztab 133)).alloc (.cells #[.int .i64 4, .int .i64 3, .int .i64 3, .int .i64 3, .int .i64 3, .int .i64 4] 3)).alloc (.cells #[.int .i64 4, .int .i64 4] 3)).alloc (.cells #[.int .i64 4] 3)).alloc (.cells #[.int .i64 4] 3)).alloc (.cells #[.int .i64 3, .int .i64 3, .int .i64 3, .int .i64 3] 3)).alloc (.cells #[.int .i64 2] 3)).alloc (.cells #[.int .i64 4] 3)).alloc (.cells #[.int .i64 3] 3)) 3 [.int .i64 4, .int .i64 2, .int .i64 4, .int .i64 4]
  rw [show (((((((((w.alloc (.cells ztab 133)).alloc (.cells #[.int .i64 4, .int .i64 3, .int .i64 3, .int .i64 3, .int .i64 3, .int .i64 4] 3)).alloc (.cells #[.int .i64 4, .int .i64 4] 3)).alloc (.cells #[.int .i64 4] 3)).alloc (.cells #[.int .i64 4] 3)).alloc (.cells #[.int .i64 3, .int .i64 3, .int .i64 3, .int .i64 3] 3)).alloc (.cells #[.int .i64 2] 3)).alloc (.cells #[.int .i64 4] 3)).alloc (.cells #[.int .i64 3] 3)).heap.size = w.heap.size + 9 by simp] at h
  exact h
theorem rdI_blk {w : World} {g : Nat} {t : TypeId} {ks : List Int} (h : Blk w g t (ks.map (.int .i64))) : RdI w (some ⟨g, 0, none⟩) ks := fun _ => ⟨g, 0, rfl, h.lt, fun i v hi => by
  have : w.cell? ⟨g, 0 + i, none⟩ = (ks.map (Value.int .i64))[0 + i]? := h.cell _
  rw [this, Nat.zero_add, List.getElem?_map, hi]
  rfl⟩
theorem rworld_kinds (w : World) (k : Nat) (h1 : 1 ≤ k) (h2 : k ≤ 10) : RdI (rworld w) (kaddr w.heap.size k) (rkinds k) := by
  rcases k10 h1 h2 with rfl | rfl | rfl | rfl | rfl | rfl | rfl | rfl | rfl | rfl
  · exact rdI_blk (rworld_1 w)
  · exact rdI_blk (rworld_2 w)
  · exact RdG.nil
  · exact rdI_blk (rworld_4 w)
  · exact rdI_blk (rworld_5 w)
  · exact rdI_blk (rworld_6 w)
  · exact rdI_blk (rworld_7 w)
  · exact rdI_blk (rworld_8 w)
  · exact rdI_blk (rworld_9 w)
  · exact rdI_blk (rworld_10 w)
set_option maxRecDepth 100000 in
set_option maxHeartbeats 3200000 in
theorem rules_any (w : World) : Calls Tryz.prog 49 #[] w fun e w' => e = .returned (.agg (rtab w.heap.size)) ∧ Only [] w w' ∧ w'.heap.size = w.heap.size + 10 ∧ ∀ k, 1 ≤ k → k ≤ 10 → RdI w' (kaddr w.heap.size k) (rkinds k) := by
  have hz : (rworld w).heap[w.heap.size]? = some (.cells ztab 133 (0, 0)) := rworld_tab w
  have hfin : Only [] w ((rworld w).setRow w.heap.size (rtab w.heap.size)) ∧ ((rworld w).setRow w.heap.size (rtab w.heap.size)).heap.size = w.heap.size + 10 ∧ ∀ k, 1 ≤ k → k ≤ 10 → RdI ((rworld w).setRow w.heap.size (rtab w.heap.size)) (kaddr w.heap.size k) (rkinds k) := by
    refine ⟨(rworld_only w).trans (only_setRow _ _ _) (by simp), by rw [setRow_size, rworld_size], fun k h1 h2 => ?_⟩
    refine RdG.onlyL (rworld_kinds w k h1 h2) (only_setRow _ _ _) (fun a ha h0 => ?_)
    unfold kaddr at ha
    split at ha
    · cases ha
    · injection ha with ha
      rw [← ha]
      simp
  have hbl : Blk ((rworld w).setRow w.heap.size (rtab w.heap.size)) w.heap.size 133 (rtab w.heap.size).toList := blk_setRow (rworld_tab w) (rtab w.heap.size).toList
  replace hfin := hide hfin
  replace hbl := hide hbl
  unfold rworld at hz
  replace hz := hide hz
  go_enter Tryz.func49, Tryz.ntmps49
  go_wp2_with (first | (refine wpList_built 2 rfl rfl 114 _ rfl (rcellsA w.heap.size 1) (by kernel_rfl) ?_) | (refine wpList_built 4 rfl rfl 114 _ rfl (rcellsA w.heap.size 2) (by kernel_rfl) ?_) | (refine wpList_built 5 rfl rfl 114 _ rfl (rcellsA w.heap.size 3) (by kernel_rfl) ?_) | (refine wpList_built 7 rfl rfl 114 _ rfl (rcellsA w.heap.size 4) (by kernel_rfl) ?_) | (refine wpList_built 9 rfl rfl 114 _ rfl (rcellsA w.heap.size 5) (by kernel_rfl) ?_) | (refine wpList_built 11 rfl rfl 114 _ rfl (rcellsA w.heap.size 6) (by kernel_rfl) ?_) | (refine wpList_built 13 rfl rfl 114 _ rfl (rcellsA w.heap.size 7) (by kernel_rfl) ?_) | (refine wpList_built 15 rfl rfl 114 _ rfl (rcellsA w.heap.size 8) (by kernel_rfl) ?_) | (refine wpList_built 17 rfl rfl 114 _ rfl (rcellsA w.heap.size 9) (by kernel_rfl) ?_) | (refine wpList_built 19 rfl rfl 114 _ rfl (rcellsA w.heap.size 10) (by kernel_rfl) ?_) | (refine wpList_built 20 rfl rfl 133 _ rfl (rtab w.heap.size) (by kernel_rfl) ?_) | (refine wpList_store_row rfl 133 (.tmp 0) (.tmp 20) rfl w.heap.size (rtab w.heap.size) rfl rfl 133 ztab hz.out (by kernel_rfl) (by kernel_rfl) (by kernel_rfl) ?_))
  (try simp only [Exit.inBlock, Exit.then])
  refine bodyPost_ret (results_cell_row rfl _ _ w.heap.size 133 (rtab w.heap.size) (0, 0) _ (by rfl) hbl.out Tryz.underlying133 rfl (by kernel_rfl)) (by rfl) ⟨rfl, hfin.out⟩
end Go.Proofs.YtdplnedpbkpgpaaGreatDoor
