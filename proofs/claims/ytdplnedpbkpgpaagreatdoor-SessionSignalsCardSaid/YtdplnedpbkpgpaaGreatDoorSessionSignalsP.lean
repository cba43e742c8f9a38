/- The law SessionSignals holds: of a session that is started just the names that a client may name do anything; for all sessions and texts; no condition. -/
import Derived.Test.YtdplnedpbkpgpaaGreatDoorSgE
import Derived.Test.YtdplnedpbkpgpaaGreatDoorTie
import Derived.Test.YtdplnedpbkpgpaaGreatDoorCards
namespace Go.Proofs.YtdplnedpbkpgpaaGreatDoor
set_option linter.all false
open Go.ChangeShapes Go.WideShapes Go.ChangeAt Go.RowKit Go.Deep

theorem mlen {W : World} (h : W.ShapedOpen Tryz.prog) : ∃ m, W.cell? ⟨0, 0, none⟩ = some (.int .i64 m) :=
  cell_of_shapedOpen_int (t := 3) (zero := #[.int .i64 0]) h (of_decide_eq_true (by kernel_rfl)) (by kernel_rfl) rfl (by kernel_rfl) (by kernel_rfl) Tryz.underlying3

set_option maxRecDepth 100000 in
theorem sessionSignals_law : LawWalkC Tryz.prog 6 Tryz.f6 := by
  intro H enc W base args ds ps hval hA hsz hshape
  rw [Tryz.params6] at hA hval hsz
  obtain ⟨m, hm⟩ := mlen hshape
  obtain ⟨w0, w1, d0, d1, p0, p1, rfl, rfl, rfl, h0, h1⟩ := trodAll_two hA
  have hw := fun (j : Nat) {t : TypeId} {d : DataW H} (a : _) (b : _) (k : Nat) (hk : _) => (by
    have := List.all_eq_true.1 hsz k (DataW.weights_mem_each (j := j) (t := t) (d := d) a b k hk)
    simpa using this : k ≤ reachBytes)
  obtain ⟨s0, A0, cap0, rfl, o0⟩ := open_sess (R := reachBytes) (hw 0 rfl rfl) (hval 0 31 w0 rfl rfl) h0
  obtain ⟨s1, rfl, s1_1, s1_2⟩ := open_strW (R := reachBytes) (hw 1 rfl rfl) (hval 1 9 w1 rfl rfl) h1
  exact (signals_walk27 s0 A0 cap0 s1 W m hm o0.rd).mono fun e w' h => ⟨h.1, h.2.below (Nat.le_refl _) (by simp)⟩

set_option maxRecDepth 100000 in
theorem sessionSignals_row : Rows.SessionSignalsSaid :=
  OpenClaim.holds_of_wide 6 Tryz.f6 rfl rfl rfl rfl rfl rfl rfl ⟨rfl, rfl, rfl, rfl, rfl⟩ rfl rfl rfl rfl rfl (by kernel_rfl) Tryz.func6 (by kernel_rfl)
    (of_decide_eq_true (by kernel_rfl)) (by unfold Func.isWrapper; rw [if_neg (by decide +kernel)]; exact ⟨rfl, rfl⟩)
    (fun os started H enc _ => law_liftedC own laidOut Tryz.underlying4 6 Tryz.f6 Rows.sessionSignalsSpec Tryz.func6 (by kernel_rfl) (by kernel_rfl) (by kernel_rfl) rfl
      (fun H ds hl => by
        have hl : ds.length = 2 := hl
        match ds, hl with
        | [d1, d2], _ => rfl)
      (fun w => laidMetH Tryz.prog Rows.sessionSignalsRow.laid w)
      sessionSignals_law os started H enc
      (ChangeSpec.witness_shaped (enc := enc) (C := Tryz.checked) (os := os) (X := fun w _ => laidMetH Tryz.prog Rows.sessionSignalsRow.laid w) false (World.laidAll Tryz.prog os Rows.sessionSignalsRow.laid) #[SS.val zS27 none 0, .string ⟨#[]⟩] 8 (World.laidAll_os _ _ _)
        (World.shaped_of_ZipB (by kernel_rfl) (by kernel_rfl)) (by kernel_rfl) (by kernel_rfl) (by kernel_rfl)
        (by rw [MakeChecks.laidMetH_plain _ _ _ (by kernel_rfl)]; exact laidMet_laidAll _ (by kernel_rfl) (by kernel_rfl))))

/-- The tied card. -/
theorem sessionSignals_holds : Rows.SessionSignalsCardSaid :=
  Claim7.holds_tied_plain_at .later [] [.data, .pinned] true (true, "831e1b9d03db11ef46bc276ad349ea3949e442ababffba6a2420ade429be72fa") false sessionSignals_row (fun _ h => by cases h) (by kernel_rfl) (fun _ h => by cases h) sessionSignals_row_tie rfl ⟨rfl, rfl⟩ (by kernel_rfl) rfl
    (fun f fn hf hfn => by
      obtain rfl : f = 6 := Option.some.inj ((show Tryz.prog.funcNamed "parlour/parlourlaw27.SessionSignals" = some 6 by kernel_rfl).symm.trans hf) |>.symm
      obtain rfl : fn = Tryz.f6 := (Option.some.inj (Tryz.func6.symm.trans hfn)).symm
      exact ⟨by kernel_rfl, fun j t ht => by
        rw [Tryz.params6] at ht
        have hm : t ∈ [31, 9] := by simpa using Array.mem_of_getElem? ht
        have hall : ([31, 9].all fun u => !Tryz.prog.wantsStandIn u) = true := by kernel_rfl
        exact (show Tryz.prog.wantsStandIn t = false by simpa using List.all_eq_true.1 hall t hm)⟩)
    (by kernel_rfl)
#print axioms sessionSignals_holds
end Go.Proofs.YtdplnedpbkpgpaaGreatDoor
