/- The law ChannelTrace holds: through any steps from a fresh channel no data is sent behind an Eof, nothing behind a Close, answers are as many as requests, one exit at most is told, data is never more than was granted; for all arguments; no condition. -/
import Derived.Test.YtpojfcpeibnohaaGreatDoorChN
import Derived.Test.YtpojfcpeibnohaaGreatDoorChO
import Derived.Test.YtpojfcpeibnohaaGreatDoorFrameD
import Derived.Test.YtpojfcpeibnohaaGreatDoorTie
import Derived.Test.YtpojfcpeibnohaaGreatDoorCards
namespace Go.Proofs.YtpojfcpeibnohaaGreatDoor
set_option linter.all false
open Go.ChangeShapes Go.WideShapes Go.ChangeAt Go.RowKit Go.Deep

set_option maxRecDepth 100000 in
theorem channelTrace_law : LawWalkC Tryz.prog 3 Tryz.f3 := by
  intro H enc W base args ds ps hval hA hsz hshape
  rw [Tryz.params3] at hA hval hsz
  obtain ⟨v0, v1, v2, d0, d1, d2, p0, p1, p2, rfl, rfl, rfl, h0, h1, h2⟩ := trodAll_three hA
  obtain ⟨left, rfl, rfl, rfl, u0⟩ := open_int Tryz.underlying22 (hval 0 22 v0 rfl rfl) h0
  obtain ⟨packet, rfl, rfl, rfl, u1⟩ := open_int Tryz.underlying22 (hval 1 22 v1 rfl rfl) h1
  obtain ⟨A, ops, cap, rfl, hl1, hl2, hr, hok⟩ := open_ops (hval 2 23 v2 rfl rfl) h2
  exact (trace_walk left packet ops A cap W (wf_u32 u0) (wf_u32 u1) hr (Nat.le_trans hl1 hl2) hok).mono fun e w' h => ⟨h.1, h.2.below (Nat.le_refl _) (by simp)⟩

set_option maxRecDepth 100000 in
theorem channelTrace_row : Rows.ChannelTraceSaid :=
  OpenClaim.holds_of_wide 3 Tryz.f3 rfl rfl rfl rfl rfl rfl rfl ⟨rfl, rfl, rfl, rfl, rfl⟩ rfl rfl rfl rfl rfl (by kernel_rfl) Tryz.func3 (by kernel_rfl)
    (of_decide_eq_true (by kernel_rfl)) (by unfold Func.isWrapper; rw [if_neg (by decide +kernel)]; exact ⟨rfl, rfl⟩)
    (fun os started H enc _ => law_liftedC own laidOut Tryz.underlying4 3 Tryz.f3 Rows.channelTraceSpec Tryz.func3 (by kernel_rfl) (by kernel_rfl) (by kernel_rfl) rfl
      (fun H ds hl => by
        have hl : ds.length = 3 := hl
        match ds, hl with
        | [d1, d2, d3], _ => rfl)
      (fun w => laidMetH Tryz.prog Rows.channelTraceRow.laid w)
      channelTrace_law os started H enc
      (ChangeSpec.witness_shaped (enc := enc) (C := Tryz.checked) (os := os) (X := fun w _ => laidMetH Tryz.prog Rows.channelTraceRow.laid w) false (World.laidAll Tryz.prog os Rows.channelTraceRow.laid) #[.int .u32 0, .int .u32 0, .slice none 0 0] 8 (World.laidAll_os _ _ _)
        (World.shaped_of_ZipB (by kernel_rfl) (by kernel_rfl)) (by kernel_rfl) (by kernel_rfl) (by kernel_rfl)
        (by rw [MakeChecks.laidMetH_plain _ _ _ (by kernel_rfl)]; exact laidMet_laidAll _ (by kernel_rfl) (by kernel_rfl))))

/-- The tied card. -/
theorem channelTrace_holds : Rows.ChannelTraceCardSaid :=
  Claim7.holds_tied_plain_at .later [] [.data, .pinned] true (true, "405df24f2ac5944519c1d4dd020f7ffed222d7188544125e071bb046a53f3742") false channelTrace_row (fun _ h => by cases h) (by kernel_rfl) (fun _ h => by cases h) channelTrace_row_tie rfl ⟨rfl, rfl⟩ (by kernel_rfl) rfl
    (fun f fn hf hfn => by
      obtain rfl : f = 3 := Option.some.inj ((show Tryz.prog.funcNamed "parlour/parlourlaw25.ChannelTrace" = some 3 by kernel_rfl).symm.trans hf) |>.symm
      obtain rfl : fn = Tryz.f3 := (Option.some.inj (Tryz.func3.symm.trans hfn)).symm
      exact ⟨by kernel_rfl, fun j t ht => by
        rw [Tryz.params3] at ht
        have hm : t ∈ [22, 22, 23] := by simpa using Array.mem_of_getElem? ht
        have hall : ([22, 22, 23].all fun u => !Tryz.prog.wantsStandIn u) = true := by kernel_rfl
        exact (show Tryz.prog.wantsStandIn t = false by simpa using List.all_eq_true.1 hall t hm)⟩)
    (by kernel_rfl)
#print axioms channelTrace_holds
end Go.Proofs.YtpojfcpeibnohaaGreatDoor
