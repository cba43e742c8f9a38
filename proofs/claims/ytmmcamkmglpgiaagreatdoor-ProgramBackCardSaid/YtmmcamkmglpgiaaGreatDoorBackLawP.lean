/- The law ProgramBack holds: what is printed is parsed as it was; what is parsed is right, and printed as it came; for all programs and texts; no condition. -/
import Derived.Test.YtmmcamkmglpgiaaGreatDoorPwE
import Derived.Test.YtmmcamkmglpgiaaGreatDoorTie
import Derived.Test.YtmmcamkmglpgiaaGreatDoorCards
namespace Go.Proofs.YtmmcamkmglpgiaaGreatDoor
set_option linter.all false
open Go.ChangeShapes Go.WideShapes Go.ChangeAt Go.RowKit Go.Deep

theorem mlen {W : World} (h : W.ShapedOpen Tryz.prog) : ∃ m, W.cell? ⟨0, 0, none⟩ = some (.int .i64 m) :=
  cell_of_shapedOpen_int (t := 3) (zero := #[.int .i64 0]) h (of_decide_eq_true (by kernel_rfl)) (by kernel_rfl) rfl (by kernel_rfl) (by kernel_rfl) Tryz.underlying3

set_option maxRecDepth 100000 in
theorem programBack_law : LawWalkT Tryz.prog 5 Tryz.f5 (fun w => laidMetH Tryz.prog Rows.programBackRow.laid w) := by
  intro H enc W base args ds ps hval hA hsz hshape hX
  rw [Tryz.params5] at hA hval hsz
  obtain ⟨m, hm⟩ := mlen hshape
  obtain ⟨w0, w1, d0, d1, p0, p1, rfl, rfl, rfl, h0, h1⟩ := trodAll_two hA
  have hw := fun (j : Nat) {t : TypeId} {d : DataW H} (a : _) (b : _) (k : Nat) (hk : _) => (by
    have := List.all_eq_true.1 hsz k (DataW.weights_mem_each (j := j) (t := t) (d := d) a b k hk)
    simpa using this : k ≤ reachBytes)
  obtain ⟨ps0, A0, cap0, rfl, o0⟩ := open_progs (by decide) (R := reachBytes) (hw 0 rfl rfl) (hval 0 22 w0 rfl rfl) h0
  obtain ⟨s1, rfl, s1_1, s1_2⟩ := open_strW (R := reachBytes) (hw 1 rfl rfl) (hval 1 9 w1 rfl rfl) h1
  exact (back_lawI ps0 A0 cap0 reachBytes s1 W o0 hX m hm).mono fun e w' h => ⟨h.1, h.2.below (Nat.le_refl _) (by simp)⟩

set_option maxRecDepth 100000 in
theorem programBack_row : Rows.ProgramBackSaid :=
  OpenClaim.holds_of_wide 5 Tryz.f5 rfl rfl rfl rfl rfl rfl rfl ⟨rfl, rfl, rfl, rfl, rfl⟩ rfl rfl rfl rfl rfl (by kernel_rfl) Tryz.func5 (by kernel_rfl)
    (of_decide_eq_true (by kernel_rfl)) (by unfold Func.isWrapper; rw [if_neg (by decide +kernel)]; exact ⟨rfl, rfl⟩)
    (fun os started H enc _ => law_liftedT own laidOut Tryz.underlying4 5 Tryz.f5 Rows.programBackSpec Tryz.func5 (by kernel_rfl) (by kernel_rfl) (by kernel_rfl) rfl
      (fun H ds hl => by
        have hl : ds.length = 2 := hl
        match ds, hl with
        | [d1, d2], _ => rfl)
      (fun w => laidMetH Tryz.prog Rows.programBackRow.laid w)
      programBack_law os started H enc
      (ChangeSpec.witness_shaped (enc := enc) (C := Tryz.checked) (os := os) (X := fun w _ => laidMetH Tryz.prog Rows.programBackRow.laid w) false (World.laidAll Tryz.prog os Rows.programBackRow.laid) #[.slice none 0 0, .string ⟨#[]⟩] 8 (World.laidAll_os _ _ _)
        (World.shaped_of_ZipB (by kernel_rfl) (by kernel_rfl)) (by kernel_rfl) (by kernel_rfl) (by kernel_rfl)
        (by rw [MakeChecks.laidMetH_plain _ _ _ (by kernel_rfl)]; exact laidMet_laidAll _ (by kernel_rfl) (by kernel_rfl))))

/-- The tied card. -/
theorem programBack_holds : Rows.ProgramBackCardSaid :=
  Claim7.holds_tied_plain_at .later [] [.data, .data, .data, .data, .sentinel, .sentinel, .pinned] true (true, "963c92daebc072e9a08c3c2864efaa5f89dbd20b29a454dcdb2a4d3b1905e5a1") true programBack_row (fun _ h => by cases h) (by kernel_rfl) (fun _ h => by cases h) programBack_row_tie rfl ⟨rfl, rfl⟩ (by kernel_rfl) rfl
    (fun f fn hf hfn => by
      obtain rfl : f = 5 := Option.some.inj ((show Tryz.prog.funcNamed "parlour/parlourlaw19.ProgramBack" = some 5 by kernel_rfl).symm.trans hf) |>.symm
      obtain rfl : fn = Tryz.f5 := (Option.some.inj (Tryz.func5.symm.trans hfn)).symm
      exact ⟨by kernel_rfl, fun j t ht => by
        rw [Tryz.params5] at ht
        have hm : t ∈ [22, 9] := by simpa using Array.mem_of_getElem? ht
        have hall : ([22, 9].all fun u => !Tryz.prog.wantsStandIn u) = true := by kernel_rfl
        exact (show Tryz.prog.wantsStandIn t = false by simpa using List.all_eq_true.1 hall t hm)⟩)
    (by kernel_rfl)
#print axioms programBack_holds
end Go.Proofs.YtmmcamkmglpgiaaGreatDoor
