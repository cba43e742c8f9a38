/- The law SessionEnds holds: how a client is told of any end is the document's, and it can be encoded; for all ints; no condition. -/
import Derived.Test.YtdplnedpbkpgpaaGreatDoorSsI
import Derived.Test.YtdplnedpbkpgpaaGreatDoorFrameD
import Derived.Test.YtdplnedpbkpgpaaGreatDoorTie
import Derived.Test.YtdplnedpbkpgpaaGreatDoorCards
namespace Go.Proofs.YtdplnedpbkpgpaaGreatDoor
set_option linter.all false
open Go.ChangeShapes Go.WideShapes Go.ChangeAt Go.RowKit Go.Deep
theorem wf_I64 {n : Int} (h : (Lit.int .i64 n).wf = true) : I64 n := by
  simp [Lit.wf, IntKind.min, IntKind.max, IntKind.bits, IntKind.signed] at h
  unfold I64
  omega

theorem mlen {W : World} (h : W.ShapedOpen Tryz.prog) : ∃ m, W.cell? ⟨0, 0, none⟩ = some (.int .i64 m) :=
  cell_of_shapedOpen_int (t := 3) (zero := #[.int .i64 0]) h (of_decide_eq_true (by kernel_rfl)) (by kernel_rfl) rfl (by kernel_rfl) (by kernel_rfl) Tryz.underlying3

set_option maxRecDepth 100000 in
theorem sessionEnds_law : LawWalkC Tryz.prog 4 Tryz.f4 := by
  intro H enc W base args ds ps hval hA hsz hshape
  rw [Tryz.params4] at hA hval hsz
  obtain ⟨m, hm⟩ := mlen hshape
  obtain ⟨v0, d0, rfl, rfl, h0⟩ := trodAll_one hA
  obtain ⟨st, rfl, rfl, rfl, u0⟩ := open_int Tryz.underlying3 (hval 0 3 v0 rfl rfl) h0
  exact (ends_walk27 st (wf_I64 u0) W m hm).mono fun e w' h => ⟨h.1, h.2.below (Nat.le_refl _) (by simp)⟩

set_option maxRecDepth 100000 in
theorem sessionEnds_row : Rows.SessionEndsSaid :=
  OpenClaim.holds_of_wide 4 Tryz.f4 rfl rfl rfl rfl rfl rfl rfl ⟨rfl, rfl, rfl, rfl, rfl⟩ rfl rfl rfl rfl rfl (by kernel_rfl) Tryz.func4 (by kernel_rfl)
    (of_decide_eq_true (by kernel_rfl)) (by unfold Func.isWrapper; rw [if_neg (by decide +kernel)]; exact ⟨rfl, rfl⟩)
    (fun os started H enc _ => law_liftedC own laidOut Tryz.underlying4 4 Tryz.f4 Rows.sessionEndsSpec Tryz.func4 (by kernel_rfl) (by kernel_rfl) (by kernel_rfl) rfl
      (fun H ds hl => by
        have hl : ds.length = 1 := hl
        match ds, hl with
        | [d1], _ => rfl)
      (fun w => laidMetH Tryz.prog Rows.sessionEndsRow.laid w)
      sessionEnds_law os started H enc
      (ChangeSpec.witness_shaped (enc := enc) (C := Tryz.checked) (os := os) (X := fun w _ => laidMetH Tryz.prog Rows.sessionEndsRow.laid w) false (World.laidAll Tryz.prog os Rows.sessionEndsRow.laid) #[.int .i64 0] 8 (World.laidAll_os _ _ _)
        (World.shaped_of_ZipB (by kernel_rfl) (by kernel_rfl)) (by kernel_rfl) (by kernel_rfl) (by kernel_rfl)
        (by rw [MakeChecks.laidMetH_plain _ _ _ (by kernel_rfl)]; exact laidMet_laidAll _ (by kernel_rfl) (by kernel_rfl))))

/-- The tied card. -/
theorem sessionEnds_holds : Rows.SessionEndsCardSaid :=
  Claim7.holds_tied_plain_at .later [] [.data, .pinned] true (true, "831e1b9d03db11ef46bc276ad349ea3949e442ababffba6a2420ade429be72fa") false sessionEnds_row (fun _ h => by cases h) (by kernel_rfl) (fun _ h => by cases h) sessionEnds_row_tie rfl ⟨rfl, rfl⟩ (by kernel_rfl) rfl
    (fun f fn hf hfn => by
      obtain rfl : f = 4 := Option.some.inj ((show Tryz.prog.funcNamed "parlour/parlourlaw27.SessionEnds" = some 4 by kernel_rfl).symm.trans hf) |>.symm
      obtain rfl : fn = Tryz.f4 := (Option.some.inj (Tryz.func4.symm.trans hfn)).symm
      exact ⟨by kernel_rfl, fun j t ht => by
        rw [Tryz.params4] at ht
        have hm : t ∈ [3] := by simpa using Array.mem_of_getElem? ht
        have hall : ([3].all fun u => !Tryz.prog.wantsStandIn u) = true := by kernel_rfl
        exact (show Tryz.prog.wantsStandIn t = false by simpa using List.all_eq_true.1 hall t hm)⟩)
    (by kernel_rfl)
#print axioms sessionEnds_holds
end Go.Proofs.YtdplnedpbkpgpaaGreatDoor
