/- The law ClientSends holds: what is typed is sent in order, never more than was granted, nothing behind an Eof but what is no data, nothing behind a Close; for all steps; no condition. -/
import Derived.Test.YtfbhemmpobgdpaaGreatDoorCsT
import Derived.Test.YtfbhemmpobgdpaaGreatDoorTie
import Derived.Test.YtfbhemmpobgdpaaGreatDoorCards
namespace Go.Proofs.YtfbhemmpobgdpaaGreatDoor
set_option linter.all false
open Go.ChangeShapes Go.WideShapes Go.ChangeAt Go.RowKit Go.Deep

theorem mlen {W : World} (h : W.ShapedOpen Tryz.prog) : ∃ m, W.cell? ⟨0, 0, none⟩ = some (.int .i64 m) :=
  cell_of_shapedOpen_int (t := 3) (zero := #[.int .i64 0]) h (of_decide_eq_true (by kernel_rfl)) (by kernel_rfl) rfl (by kernel_rfl) (by kernel_rfl) Tryz.underlying3

set_option maxRecDepth 100000 in
theorem clientSends_law : LawWalkC Tryz.prog 3 Tryz.f3 := by
  intro H enc W base args ds ps hval hA hsz hshape
  rw [Tryz.params3] at hA hval hsz
  obtain ⟨m, hm⟩ := mlen hshape
  obtain ⟨w0, d0, rfl, rfl, h0⟩ := trodAll_one hA
  have hw := fun (j : Nat) {t : TypeId} {d : DataW H} (a : _) (b : _) (k : Nat) (hk : _) => (by
    have := List.all_eq_true.1 hsz k (DataW.weights_mem_each (j := j) (t := t) (d := d) a b k hk)
    simpa using this : k ≤ reachBytes)
  obtain ⟨A0, l0, cap0, rfl, u0, v0, o0, q0⟩ := open_ops30 (hval 0 22 w0 rfl rfl) h0
  exact (sends_walk l0 l0.length rfl A0 cap0 m W o0 q0 (Nat.le_trans u0 v0) hm).mono fun e w' h => ⟨h.1, h.2.below (Nat.le_refl _) (by simp)⟩

set_option maxRecDepth 100000 in
theorem clientSends_row : Rows.ClientSendsSaid :=
  OpenClaim.holds_of_wide 3 Tryz.f3 rfl rfl rfl rfl rfl rfl rfl ⟨rfl, rfl, rfl, rfl, rfl⟩ rfl rfl rfl rfl rfl (by kernel_rfl) Tryz.func3 (by kernel_rfl)
    (of_decide_eq_true (by kernel_rfl)) (by unfold Func.isWrapper; rw [if_neg (by decide +kernel)]; exact ⟨rfl, rfl⟩)
    (fun os started H enc _ => law_liftedC own laidOut Tryz.underlying4 3 Tryz.f3 Rows.clientSendsSpec Tryz.func3 (by kernel_rfl) (by kernel_rfl) (by kernel_rfl) rfl
      (fun H ds hl => by
        have hl : ds.length = 1 := hl
        match ds, hl with
        | [d1], _ => rfl)
      (fun w => laidMetH Tryz.prog Rows.clientSendsRow.laid w)
      clientSends_law os started H enc
      (ChangeSpec.witness_shaped (enc := enc) (C := Tryz.checked) (os := os) (X := fun w _ => laidMetH Tryz.prog Rows.clientSendsRow.laid w) false (World.laidAll Tryz.prog os Rows.clientSendsRow.laid) #[.slice none 0 0] 8 (World.laidAll_os _ _ _)
        (World.shaped_of_ZipB (by kernel_rfl) (by kernel_rfl)) (by kernel_rfl) (by kernel_rfl) (by kernel_rfl)
        (by rw [MakeChecks.laidMetH_plain _ _ _ (by kernel_rfl)]; exact laidMet_laidAll _ (by kernel_rfl) (by kernel_rfl))))

/-- The tied card. -/
theorem clientSends_holds : Rows.ClientSendsCardSaid :=
  Claim7.holds_tied_plain_at .later [] [.data, .pinned] true (true, "066d62dbcceaf92935b35b4fadf9c3c6042742bace7961bf63176e5c75f42020") false clientSends_row (fun _ h => by cases h) (by kernel_rfl) (fun _ h => by cases h) clientSends_row_tie rfl ⟨rfl, rfl⟩ (by kernel_rfl) rfl
    (fun f fn hf hfn => by
      obtain rfl : f = 3 := Option.some.inj ((show Tryz.prog.funcNamed "parlour/parlourlaw30.ClientSends" = some 3 by kernel_rfl).symm.trans hf) |>.symm
      obtain rfl : fn = Tryz.f3 := (Option.some.inj (Tryz.func3.symm.trans hfn)).symm
      exact ⟨by kernel_rfl, fun j t ht => by
        rw [Tryz.params3] at ht
        have hm : t ∈ [22] := by simpa using Array.mem_of_getElem? ht
        have hall : ([22].all fun u => !Tryz.prog.wantsStandIn u) = true := by kernel_rfl
        exact (show Tryz.prog.wantsStandIn t = false by simpa using List.all_eq_true.1 hall t hm)⟩)
    (by kernel_rfl)
#print axioms clientSends_holds
end Go.Proofs.YtfbhemmpobgdpaaGreatDoor
