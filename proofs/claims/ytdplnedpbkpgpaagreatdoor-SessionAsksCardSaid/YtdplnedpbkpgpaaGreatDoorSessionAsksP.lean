/- The law SessionAsks holds: any session that is asked anything, and what is to be done, are the document's; for all sessions, requests and programs; no condition. -/
import Derived.Test.YtdplnedpbkpgpaaGreatDoorSlU
import Derived.Test.YtdplnedpbkpgpaaGreatDoorSlV
import Derived.Test.YtdplnedpbkpgpaaGreatDoorTie
import Derived.Test.YtdplnedpbkpgpaaGreatDoorCards
namespace Go.Proofs.YtdplnedpbkpgpaaGreatDoor
set_option linter.all false
open Go.ChangeShapes Go.WideShapes Go.ChangeAt Go.RowKit Go.Deep

theorem mlen {W : World} (h : W.ShapedOpen Tryz.prog) : ∃ m, W.cell? ⟨0, 0, none⟩ = some (.int .i64 m) :=
  cell_of_shapedOpen_int (t := 3) (zero := #[.int .i64 0]) h (of_decide_eq_true (by kernel_rfl)) (by kernel_rfl) rfl (by kernel_rfl) (by kernel_rfl) Tryz.underlying3

set_option maxRecDepth 100000 in
theorem sessionAsks_law : LawWalkC Tryz.prog 3 Tryz.f3 := by
  intro H enc W base args ds ps hval hA hsz hshape
  rw [Tryz.params3] at hA hval hsz
  obtain ⟨m, hm⟩ := mlen hshape
  obtain ⟨w0, w1, w2, d0, d1, d2, p0, p1, p2, rfl, rfl, rfl, h0, h1, h2⟩ := trodAll_three hA
  have hw := fun (j : Nat) {t : TypeId} {d : DataW H} (a : _) (b : _) (k : Nat) (hk : _) => (by
    have := List.all_eq_true.1 hsz k (DataW.weights_mem_each (j := j) (t := t) (d := d) a b k hk)
    simpa using this : k ≤ reachBytes)
  obtain ⟨s0, A0, cap0, rfl, o0⟩ := open_sess (R := reachBytes) (hw 0 rfl rfl) (hval 0 31 w0 rfl rfl) h0
  obtain ⟨q1, rfl, o1⟩ := open_asked (by decide) (R := reachBytes) (hw 1 rfl rfl) (hval 1 34 w1 rfl rfl) h1
  obtain ⟨ps2, A2, cap2, rfl, o2⟩ := open_progs (by decide) (R := reachBytes) (hw 2 rfl rfl) (hval 2 35 w2 rfl rfl) h2
  exact (asks_walk27 s0 A0 cap0 q1 ps2 A2 cap2 W m hm o0.rd o1.1 o2.pgs o2.few (fun x hx => Nat.le_trans (o0.strs x hx).2.2.2 (by decide))).mono fun e w' h => ⟨h.1, h.2.below (Nat.le_refl _) (by simp)⟩

set_option maxRecDepth 100000 in
theorem sessionAsks_row : Rows.SessionAsksSaid :=
  OpenClaim.holds_of_wide 3 Tryz.f3 rfl rfl rfl rfl rfl rfl rfl ⟨rfl, rfl, rfl, rfl, rfl⟩ rfl rfl rfl rfl rfl (by kernel_rfl) Tryz.func3 (by kernel_rfl)
    (of_decide_eq_true (by kernel_rfl)) (by unfold Func.isWrapper; rw [if_neg (by decide +kernel)]; exact ⟨rfl, rfl⟩)
    (fun os started H enc _ => law_liftedC own laidOut Tryz.underlying4 3 Tryz.f3 Rows.sessionAsksSpec Tryz.func3 (by kernel_rfl) (by kernel_rfl) (by kernel_rfl) rfl
      (fun H ds hl => by
        have hl : ds.length = 3 := hl
        match ds, hl with
        | [d1, d2, d3], _ => rfl)
      (fun w => laidMetH Tryz.prog Rows.sessionAsksRow.laid w)
      sessionAsks_law os started H enc
      (ChangeSpec.witness_shaped (enc := enc) (C := Tryz.checked) (os := os) (X := fun w _ => laidMetH Tryz.prog Rows.sessionAsksRow.laid w) false (World.laidAll Tryz.prog os Rows.sessionAsksRow.laid) #[SS.val zS27 none 0, .agg #[.string ⟨#[]⟩, .slice none 0 0], .slice none 0 0] 8 (World.laidAll_os _ _ _)
        (World.shaped_of_ZipB (by kernel_rfl) (by kernel_rfl)) (by kernel_rfl) (by kernel_rfl) (by kernel_rfl)
        (by rw [MakeChecks.laidMetH_plain _ _ _ (by kernel_rfl)]; exact laidMet_laidAll _ (by kernel_rfl) (by kernel_rfl))))

/-- The tied card. -/
theorem sessionAsks_holds : Rows.SessionAsksCardSaid :=
  Claim7.holds_tied_plain_at .later [] [.data, .pinned] true (true, "831e1b9d03db11ef46bc276ad349ea3949e442ababffba6a2420ade429be72fa") false sessionAsks_row (fun _ h => by cases h) (by kernel_rfl) (fun _ h => by cases h) sessionAsks_row_tie rfl ⟨rfl, rfl⟩ (by kernel_rfl) rfl
    (fun f fn hf hfn => by
      obtain rfl : f = 3 := Option.some.inj ((show Tryz.prog.funcNamed "parlour/parlourlaw27.SessionAsks" = some 3 by kernel_rfl).symm.trans hf) |>.symm
      obtain rfl : fn = Tryz.f3 := (Option.some.inj (Tryz.func3.symm.trans hfn)).symm
      exact ⟨by kernel_rfl, fun j t ht => by
        rw [Tryz.params3] at ht
        have hm : t ∈ [31, 34, 35] := by simpa using Array.mem_of_getElem? ht
        have hall : ([31, 34, 35].all fun u => !Tryz.prog.wantsStandIn u) = true := by kernel_rfl
        exact (show Tryz.prog.wantsStandIn t = false by simpa using List.all_eq_true.1 hall t hm)⟩)
    (by kernel_rfl)
#print axioms sessionAsks_holds
end Go.Proofs.YtdplnedpbkpgpaaGreatDoor
