/- The law ChannelComes holds: whatever comes to a channel through any steps, its window is never passed, an error changes nothing, nothing is taken behind an Eof or a Close; for all arguments; no condition. -/
import Derived.Test.YtpojfcpeibnohaaGreatDoorChQ
import Derived.Test.YtpojfcpeibnohaaGreatDoorChO
import Derived.Test.YtpojfcpeibnohaaGreatDoorFrameD
import Derived.Test.YtpojfcpeibnohaaGreatDoorTie
import Derived.Test.YtpojfcpeibnohaaGreatDoorCards
namespace Go.Proofs.YtpojfcpeibnohaaGreatDoor
set_option linter.all false
open Go.ChangeShapes Go.WideShapes Go.ChangeAt Go.RowKit Go.Deep

set_option maxRecDepth 100000 in
theorem channelComes_law : LawWalkC Tryz.prog 4 Tryz.f4 := by
  intro H enc W base args ds ps hval hA hsz hshape
  rw [Tryz.params4] at hA hval hsz
  obtain ⟨v0, v1, d0, d1, p0, p1, rfl, rfl, rfl, h0, h1⟩ := trodAll_two hA
  obtain ⟨limit, rfl, rfl, rfl, u0⟩ := open_int Tryz.underlying22 (hval 0 22 v0 rfl rfl) h0
  obtain ⟨A, ops, cap, rfl, hl1, hl2, hr, hok⟩ := open_ops (hval 1 23 v1 rfl rfl) h1
  exact (comes_walk limit ops A cap W (wf_u32 u0) hr (Nat.le_trans hl1 hl2) hok).mono fun e w' h => ⟨h.1, h.2.below (Nat.le_refl _) (by simp)⟩

set_option maxRecDepth 100000 in
theorem channelComes_row : Rows.ChannelComesSaid :=
  OpenClaim.holds_of_wide 4 Tryz.f4 rfl rfl rfl rfl rfl rfl rfl ⟨rfl, rfl, rfl, rfl, rfl⟩ rfl rfl rfl rfl rfl (by kernel_rfl) Tryz.func4 (by kernel_rfl)
    (of_decide_eq_true (by kernel_rfl)) (by unfold Func.isWrapper; rw [if_neg (by decide +kernel)]; exact ⟨rfl, rfl⟩)
    (fun os started H enc _ => law_liftedC own laidOut Tryz.underlying4 4 Tryz.f4 Rows.channelComesSpec Tryz.func4 (by kernel_rfl) (by kernel_rfl) (by kernel_rfl) rfl
      (fun H ds hl => by
        have hl : ds.length = 2 := hl
        match ds, hl with
        | [d1, d2], _ => rfl)
      (fun w => laidMetH Tryz.prog Rows.channelComesRow.laid w)
      channelComes_law os started H enc
      (ChangeSpec.witness_shaped (enc := enc) (C := Tryz.checked) (os := os) (X := fun w _ => laidMetH Tryz.prog Rows.channelComesRow.laid w) false (World.laidAll Tryz.prog os Rows.channelComesRow.laid) #[.int .u32 0, .slice none 0 0] 8 (World.laidAll_os _ _ _)
        (World.shaped_of_ZipB (by kernel_rfl) (by kernel_rfl)) (by kernel_rfl) (by kernel_rfl) (by kernel_rfl)
        (by rw [MakeChecks.laidMetH_plain _ _ _ (by kernel_rfl)]; exact laidMet_laidAll _ (by kernel_rfl) (by kernel_rfl))))

/-- The tied card. -/
theorem channelComes_holds : Rows.ChannelComesCardSaid :=
  Claim7.holds_tied_plain_at .later [] [.data, .pinned] true (true, "405df24f2ac5944519c1d4dd020f7ffed222d7188544125e071bb046a53f3742") false channelComes_row (fun _ h => by cases h) (by kernel_rfl) (fun _ h => by cases h) channelComes_row_tie rfl ⟨rfl, rfl⟩ (by kernel_rfl) rfl
    (fun f fn hf hfn => by
      obtain rfl : f = 4 := Option.some.inj ((show Tryz.prog.funcNamed "parlour/parlourlaw25.ChannelComes" = some 4 by kernel_rfl).symm.trans hf) |>.symm
      obtain rfl : fn = Tryz.f4 := (Option.some.inj (Tryz.func4.symm.trans hfn)).symm
      exact ⟨by kernel_rfl, fun j t ht => by
        rw [Tryz.params4] at ht
        have hm : t ∈ [22, 23] := by simpa using Array.mem_of_getElem? ht
        have hall : ([22, 23].all fun u => !Tryz.prog.wantsStandIn u) = true := by kernel_rfl
        exact (show Tryz.prog.wantsStandIn t = false by simpa using List.all_eq_true.1 hall t hm)⟩)
    (by kernel_rfl)
#print axioms channelComes_holds
end Go.Proofs.YtpojfcpeibnohaaGreatDoor
