/- The law TracePlays holds: what each answers, and all ends, are the document's, through any messages; for all lines; no condition. -/
import Derived.Test.YtkgikodiecmakaaGreatDoorTpL
import Derived.Test.YtkgikodiecmakaaGreatDoorTpT
import Derived.Test.YtkgikodiecmakaaGreatDoorTie
import Derived.Test.YtkgikodiecmakaaGreatDoorCards
namespace Go.Proofs.YtkgikodiecmakaaGreatDoor
set_option linter.all false
open Go.ChangeShapes Go.WideShapes Go.ChangeAt Go.RowKit Go.Deep

theorem mlen {W : World} (h : W.ShapedOpen Tryz.prog) : ∃ m, W.cell? ⟨0, 0, none⟩ = some (.int .i64 m) :=
  cell_of_shapedOpen_int (t := 3) (zero := #[.int .i64 0]) h (of_decide_eq_true (by kernel_rfl)) (by kernel_rfl) rfl (by kernel_rfl) (by kernel_rfl) Tryz.underlying3

set_option maxRecDepth 100000 in
theorem tracePlays_law : LawWalkC Tryz.prog 3 Tryz.f3 := by
  intro H enc W base args ds ps hval hA hsz hshape
  rw [Tryz.params3] at hA hval hsz
  obtain ⟨m, hm⟩ := mlen hshape
  obtain ⟨w0, d0, rfl, rfl, h0⟩ := trodAll_one hA
  have hw := fun (j : Nat) {t : TypeId} {d : DataW H} (a : _) (b : _) (k : Nat) (hk : _) => (by
    have := List.all_eq_true.1 hsz k (DataW.weights_mem_each (j := j) (t := t) (d := d) a b k hk)
    simpa using this : k ≤ reachBytes)
  obtain ⟨l0, A0, cap0, rfl, o0⟩ := open_lines (by decide) (R := reachBytes) (hw 0 rfl rfl) (hval 0 22 w0 rfl rfl) h0
  exact (plays_walk l0 l0.length rfl A0 cap0 m W o0.1 (fun x hx => (o0.2.2.2 x hx).inn hm) (Nat.le_trans o0.2.1 o0.2.2.1) hm).mono fun e w' h => ⟨h.1, h.2.below (Nat.le_refl _) (by simp)⟩

set_option maxRecDepth 100000 in
theorem tracePlays_row : Rows.TracePlaysSaid :=
  OpenClaim.holds_of_wide 3 Tryz.f3 rfl rfl rfl rfl rfl rfl rfl ⟨rfl, rfl, rfl, rfl, rfl⟩ rfl rfl rfl rfl rfl (by kernel_rfl) Tryz.func3 (by kernel_rfl)
    (of_decide_eq_true (by kernel_rfl)) (by unfold Func.isWrapper; rw [if_neg (by decide +kernel)]; exact ⟨rfl, rfl⟩)
    (fun os started H enc _ => law_liftedC own laidOut Tryz.underlying4 3 Tryz.f3 Rows.tracePlaysSpec Tryz.func3 (by kernel_rfl) (by kernel_rfl) (by kernel_rfl) rfl
      (fun H ds hl => by
        have hl : ds.length = 1 := hl
        match ds, hl with
        | [d1], _ => rfl)
      (fun w => laidMetH Tryz.prog Rows.tracePlaysRow.laid w)
      tracePlays_law os started H enc
      (ChangeSpec.witness_shaped (enc := enc) (C := Tryz.checked) (os := os) (X := fun w _ => laidMetH Tryz.prog Rows.tracePlaysRow.laid w) false (World.laidAll Tryz.prog os Rows.tracePlaysRow.laid) #[.slice none 0 0] 8 (World.laidAll_os _ _ _)
        (World.shaped_of_ZipB (by kernel_rfl) (by kernel_rfl)) (by kernel_rfl) (by kernel_rfl) (by kernel_rfl)
        (by rw [MakeChecks.laidMetH_plain _ _ _ (by kernel_rfl)]; exact laidMet_laidAll _ (by kernel_rfl) (by kernel_rfl))))

/-- The tied card. -/
theorem tracePlays_holds : Rows.TracePlaysCardSaid :=
  Claim7.holds_tied_plain_at .later [] [.data, .pinned] true (true, "fb102fe8ceb6dea578880ef8d4cd45547afec448ba95d50db9a57b70130a0a87") false tracePlays_row (fun _ h => by cases h) (by kernel_rfl) (fun _ h => by cases h) tracePlays_row_tie rfl ⟨rfl, rfl⟩ (by kernel_rfl) rfl
    (fun f fn hf hfn => by
      obtain rfl : f = 3 := Option.some.inj ((show Tryz.prog.funcNamed "parlour/parlourlaw29.TracePlays" = some 3 by kernel_rfl).symm.trans hf) |>.symm
      obtain rfl : fn = Tryz.f3 := (Option.some.inj (Tryz.func3.symm.trans hfn)).symm
      exact ⟨by kernel_rfl, fun j t ht => by
        rw [Tryz.params3] at ht
        have hm : t ∈ [22] := by simpa using Array.mem_of_getElem? ht
        have hall : ([22].all fun u => !Tryz.prog.wantsStandIn u) = true := by kernel_rfl
        exact (show Tryz.prog.wantsStandIn t = false by simpa using List.all_eq_true.1 hall t hm)⟩)
    (by kernel_rfl)
#print axioms tracePlays_holds
end Go.Proofs.YtkgikodiecmakaaGreatDoor
