/- The law SessionOnce holds: through any requests a session is started once at most, a terminal asked for once at most; for all requests and programs; no condition. -/
import Derived.Test.YtdplnedpbkpgpaaGreatDoorSwE
import Derived.Test.YtdplnedpbkpgpaaGreatDoorTie
import Derived.Test.YtdplnedpbkpgpaaGreatDoorCards
namespace Go.Proofs.YtdplnedpbkpgpaaGreatDoor
set_option linter.all false
open Go.ChangeShapes Go.WideShapes Go.ChangeAt Go.RowKit Go.Deep

theorem mlen {W : World} (h : W.ShapedOpen Tryz.prog) : ∃ m, W.cell? ⟨0, 0, none⟩ = some (.int .i64 m) :=
  cell_of_shapedOpen_int (t := 3) (zero := #[.int .i64 0]) h (of_decide_eq_true (by kernel_rfl)) (by kernel_rfl) rfl (by kernel_rfl) (by kernel_rfl) Tryz.underlying3

set_option maxRecDepth 100000 in
theorem sessionOnce_law : LawWalkC Tryz.prog 5 Tryz.f5 := by
  intro H enc W base args ds ps hval hA hsz hshape
  rw [Tryz.params5] at hA hval hsz
  obtain ⟨m, hm⟩ := mlen hshape
  obtain ⟨w0, w1, d0, d1, p0, p1, rfl, rfl, rfl, h0, h1⟩ := trodAll_two hA
  have hw := fun (j : Nat) {t : TypeId} {d : DataW H} (a : _) (b : _) (k : Nat) (hk : _) => (by
    have := List.all_eq_true.1 hsz k (DataW.weights_mem_each (j := j) (t := t) (d := d) a b k hk)
    simpa using this : k ≤ reachBytes)
  obtain ⟨l0, A0, cap0, rfl, o0⟩ := open_askeds (by decide) (R := reachBytes) (hw 0 rfl rfl) (hval 0 38 w0 rfl rfl) h0
  obtain ⟨ps1, A1, cap1, rfl, o1⟩ := open_progs (by decide) (R := reachBytes) (hw 1 rfl rfl) (hval 1 35 w1 rfl rfl) h1
  exact (once_walk27 l0 A0 cap0 ps1 A1 cap1 W m hm o0 o1.pgs o1.few).mono fun e w' h => ⟨h.1, h.2.below (Nat.le_refl _) (by simp)⟩

set_option maxRecDepth 100000 in
theorem sessionOnce_row : Rows.SessionOnceSaid :=
  OpenClaim.holds_of_wide 5 Tryz.f5 rfl rfl rfl rfl rfl rfl rfl ⟨rfl, rfl, rfl, rfl, rfl⟩ rfl rfl rfl rfl rfl (by kernel_rfl) Tryz.func5 (by kernel_rfl)
    (of_decide_eq_true (by kernel_rfl)) (by unfold Func.isWrapper; rw [if_neg (by decide +kernel)]; exact ⟨rfl, rfl⟩)
    (fun os started H enc _ => law_liftedC own laidOut Tryz.underlying4 5 Tryz.f5 Rows.sessionOnceSpec Tryz.func5 (by kernel_rfl) (by kernel_rfl) (by kernel_rfl) rfl
      (fun H ds hl => by
        have hl : ds.length = 2 := hl
        match ds, hl with
        | [d1, d2], _ => rfl)
      (fun w => laidMetH Tryz.prog Rows.sessionOnceRow.laid w)
      sessionOnce_law os started H enc
      (ChangeSpec.witness_shaped (enc := enc) (C := Tryz.checked) (os := os) (X := fun w _ => laidMetH Tryz.prog Rows.sessionOnceRow.laid w) false (World.laidAll Tryz.prog os Rows.sessionOnceRow.laid) #[.slice none 0 0, .slice none 0 0] 8 (World.laidAll_os _ _ _)
        (World.shaped_of_ZipB (by kernel_rfl) (by kernel_rfl)) (by kernel_rfl) (by kernel_rfl) (by kernel_rfl)
        (by rw [MakeChecks.laidMetH_plain _ _ _ (by kernel_rfl)]; exact laidMet_laidAll _ (by kernel_rfl) (by kernel_rfl))))

/-- The tied card. -/
theorem sessionOnce_holds : Rows.SessionOnceCardSaid :=
  Claim7.holds_tied_plain_at .later [] [.data, .pinned] true (true, "831e1b9d03db11ef46bc276ad349ea3949e442ababffba6a2420ade429be72fa") false sessionOnce_row (fun _ h => by cases h) (by kernel_rfl) (fun _ h => by cases h) sessionOnce_row_tie rfl ⟨rfl, rfl⟩ (by kernel_rfl) rfl
    (fun f fn hf hfn => by
      obtain rfl : f = 5 := Option.some.inj ((show Tryz.prog.funcNamed "parlour/parlourlaw27.SessionOnce" = some 5 by kernel_rfl).symm.trans hf) |>.symm
      obtain rfl : fn = Tryz.f5 := (Option.some.inj (Tryz.func5.symm.trans hfn)).symm
      exact ⟨by kernel_rfl, fun j t ht => by
        rw [Tryz.params5] at ht
        have hm : t ∈ [38, 35] := by simpa using Array.mem_of_getElem? ht
        have hall : ([38, 35].all fun u => !Tryz.prog.wantsStandIn u) = true := by kernel_rfl
        exact (show Tryz.prog.wantsStandIn t = false by simpa using List.all_eq_true.1 hall t hm)⟩)
    (by kernel_rfl)
#print axioms sessionOnce_holds
end Go.Proofs.YtdplnedpbkpgpaaGreatDoor
