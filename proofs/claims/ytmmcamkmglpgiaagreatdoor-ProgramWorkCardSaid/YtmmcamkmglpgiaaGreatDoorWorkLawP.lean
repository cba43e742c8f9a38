/- The law ProgramWork holds: Work is one more with each plain operation in front; with a Fork in front one more and what the forked one makes; what stands behind an Exit says nothing; for all programs; no condition. -/
import Derived.Test.YtmmcamkmglpgiaaGreatDoorPvE
import Derived.Test.YtmmcamkmglpgiaaGreatDoorTie
import Derived.Test.YtmmcamkmglpgiaaGreatDoorCards
namespace Go.Proofs.YtmmcamkmglpgiaaGreatDoor
set_option linter.all false
open Go.ChangeShapes Go.WideShapes Go.ChangeAt Go.RowKit Go.Deep

theorem mlen {W : World} (h : W.ShapedOpen Tryz.prog) : ∃ m, W.cell? ⟨0, 0, none⟩ = some (.int .i64 m) :=
  cell_of_shapedOpen_int (t := 3) (zero := #[.int .i64 0]) h (of_decide_eq_true (by kernel_rfl)) (by kernel_rfl) rfl (by kernel_rfl) (by kernel_rfl) Tryz.underlying3

set_option maxRecDepth 100000 in
theorem programWork_law : LawWalkT Tryz.prog 3 Tryz.f3 (fun w => laidMetH Tryz.prog Rows.programWorkRow.laid w) := by
  intro H enc W base args ds ps hval hA hsz hshape hX
  rw [Tryz.params3] at hA hval hsz
  obtain ⟨m, hm⟩ := mlen hshape
  obtain ⟨w0, w1, d0, d1, p0, p1, rfl, rfl, rfl, h0, h1⟩ := trodAll_two hA
  have hw := fun (j : Nat) {t : TypeId} {d : DataW H} (a : _) (b : _) (k : Nat) (hk : _) => (by
    have := List.all_eq_true.1 hsz k (DataW.weights_mem_each (j := j) (t := t) (d := d) a b k hk)
    simpa using this : k ≤ reachBytes)
  obtain ⟨ps0, A0, cap0, rfl, o0⟩ := open_progs (by decide) (R := reachBytes) (hw 0 rfl rfl) (hval 0 22 w0 rfl rfl) h0
  obtain ⟨v1, rfl, _, _, u1⟩ := open_int Tryz.underlying5 (hval 1 5 w1 rfl rfl) h1
  exact (work_lawI ps0 A0 cap0 reachBytes v1 u1 W o0 hX m hm).mono fun e w' h => ⟨h.1, h.2.below (Nat.le_refl _) (by simp)⟩

set_option maxRecDepth 100000 in
theorem programWork_row : Rows.ProgramWorkSaid :=
  OpenClaim.holds_of_wide 3 Tryz.f3 rfl rfl rfl rfl rfl rfl rfl ⟨rfl, rfl, rfl, rfl, rfl⟩ rfl rfl rfl rfl rfl (by kernel_rfl) Tryz.func3 (by kernel_rfl)
    (of_decide_eq_true (by kernel_rfl)) (by unfold Func.isWrapper; rw [if_neg (by decide +kernel)]; exact ⟨rfl, rfl⟩)
    (fun os started H enc _ => law_liftedT own laidOut Tryz.underlying4 3 Tryz.f3 Rows.programWorkSpec Tryz.func3 (by kernel_rfl) (by kernel_rfl) (by kernel_rfl) rfl
      (fun H ds hl => by
        have hl : ds.length = 2 := hl
        match ds, hl with
        | [d1, d2], _ => rfl)
      (fun w => laidMetH Tryz.prog Rows.programWorkRow.laid w)
      programWork_law os started H enc
      (ChangeSpec.witness_shaped (enc := enc) (C := Tryz.checked) (os := os) (X := fun w _ => laidMetH Tryz.prog Rows.programWorkRow.laid w) false (World.laidAll Tryz.prog os Rows.programWorkRow.laid) #[.slice none 0 0, .int .u8 0] 8 (World.laidAll_os _ _ _)
        (World.shaped_of_ZipB (by kernel_rfl) (by kernel_rfl)) (by kernel_rfl) (by kernel_rfl) (by kernel_rfl)
        (by rw [MakeChecks.laidMetH_plain _ _ _ (by kernel_rfl)]; exact laidMet_laidAll _ (by kernel_rfl) (by kernel_rfl))))

/-- The tied card. -/
theorem programWork_holds : Rows.ProgramWorkCardSaid :=
  Claim7.holds_tied_plain_at .later [] [.data, .data, .data, .data, .sentinel, .sentinel, .pinned] true (true, "963c92daebc072e9a08c3c2864efaa5f89dbd20b29a454dcdb2a4d3b1905e5a1") true programWork_row (fun _ h => by cases h) (by kernel_rfl) (fun _ h => by cases h) programWork_row_tie rfl ⟨rfl, rfl⟩ (by kernel_rfl) rfl
    (fun f fn hf hfn => by
      obtain rfl : f = 3 := Option.some.inj ((show Tryz.prog.funcNamed "parlour/parlourlaw19.ProgramWork" = some 3 by kernel_rfl).symm.trans hf) |>.symm
      obtain rfl : fn = Tryz.f3 := (Option.some.inj (Tryz.func3.symm.trans hfn)).symm
      exact ⟨by kernel_rfl, fun j t ht => by
        rw [Tryz.params3] at ht
        have hm : t ∈ [22, 5] := by simpa using Array.mem_of_getElem? ht
        have hall : ([22, 5].all fun u => !Tryz.prog.wantsStandIn u) = true := by kernel_rfl
        exact (show Tryz.prog.wantsStandIn t = false by simpa using List.all_eq_true.1 hall t hm)⟩)
    (by kernel_rfl)
#print axioms programWork_holds
end Go.Proofs.YtmmcamkmglpgiaaGreatDoor
