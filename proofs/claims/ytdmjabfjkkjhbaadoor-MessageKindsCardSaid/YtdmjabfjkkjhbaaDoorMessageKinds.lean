/- The law MessageKinds holds: for every message, kind and cut; no condition. -/
import Derived.Test.YtdmjabfjkkjhbaaDoorKindsA
import Derived.Test.YtdmjabfjkkjhbaaDoorKindsB
import Derived.Test.YtdmjabfjkkjhbaaDoorKindsC
import Derived.Test.YtdmjabfjkkjhbaaDoorTie
import Derived.Test.YtdmjabfjkkjhbaaDoorCards
namespace Go.Proofs.YtdmjabfjkkjhbaaDoor
set_option linter.all false
open Go.ChangeShapes Go.WideShapes Go.ChangeAt Go.RowKit Go.Deep

theorem messageKinds_walk (m : MD) (k cut : Int) (i0 : Int) (w : World) (hm : w.cell? ⟨0, 0, none⟩ = some (.int .i64 i0)) (ok : m.ok w) (hk : 0 ≤ k ∧ k < 256) (hcut : 0 ≤ cut ∧ cut < 65536) :
    Calls Tryd.prog 10 #[m.val, .int .u8 k, .int .u16 cut] w fun e w' => e = .returned (.bool true) ∧ Below w.heap.size w w' := by
  by_cases h1 : k = 1
  · subst h1; exact kinds_k1 m cut i0 w hm ok hcut
  by_cases h80 : k = 80
  · subst h80; exact kinds_k80 m cut i0 w hm ok hcut
  by_cases h81 : k = 81
  · subst h81; exact kinds_k81 m cut i0 w hm ok hcut
  by_cases h82 : k = 82
  · subst h82; exact kinds_k82 m cut i0 w hm ok hcut
  by_cases h90 : k = 90
  · subst h90; exact kinds_k90 m cut i0 w hm ok hcut
  by_cases h91 : k = 91
  · subst h91; exact kinds_k91 m cut i0 w hm ok hcut
  by_cases h98 : k = 98
  · subst h98; exact kinds_k98 m cut i0 w hm ok hcut
  by_cases c1 : k < 80
  · exact kinds_low m cut i0 w k (by omega) (by omega) (by omega) (by omega) (by omega) hm ok hcut
  by_cases c2 : k < 90
  · exact kinds_mid m cut i0 w k (by omega) (by omega) (by omega) (by omega) (by omega) hm ok hcut
  by_cases c3 : 100 < k
  · exact kinds_high m cut i0 w k (by omega) (by omega) (by omega) (by omega) (by omega) (by omega) hm ok hcut
  exact kinds_other m cut i0 w k (by omega) (by omega) (by omega) (by omega) (by omega) (by omega) (by omega) hm ok hcut

theorem mlen {W : World} (h : W.ShapedOpen Tryd.prog) : ∃ m, W.cell? ⟨0, 0, none⟩ = some (.int .i64 m) :=
  cell_of_shapedOpen_int (t := 3) (zero := #[.int .i64 0]) h (of_decide_eq_true (by kernel_rfl)) (by kernel_rfl) rfl (by kernel_rfl) (by kernel_rfl) Tryd.underlying3

set_option maxRecDepth 100000 in
theorem messageKinds_law : LawWalkC Tryd.prog 10 Tryd.f10 := by
  intro H enc W base args ds ps hval hA hsz hshape
  rw [Tryd.params10] at hA hval hsz
  obtain ⟨m, hm⟩ := mlen hshape
  obtain ⟨v0, v1, v2, d0, d1, d2, p0, p1, p2, rfl, rfl, rfl, h0, h1, h2⟩ := trodAll_three hA
  obtain ⟨x, rfl, ok⟩ := openM (hval 0 47 v0 rfl rfl) h0
  obtain ⟨k, rfl, rfl, rfl, wk⟩ := open_int Tryd.underlying5 (hval 1 5 v1 rfl rfl) h1
  obtain ⟨cut, rfl, rfl, rfl, wc⟩ := open_int Tryd.underlying55 (hval 2 55 v2 rfl rfl) h2
  exact messageKinds_walk x k cut m W hm ok (by have := wf_u8 wk; omega) (by have := wf_u16 wc; omega)

set_option maxRecDepth 100000 in
theorem messageKinds_row : Rows.MessageKindsSaid :=
  OpenClaim.holds_of_wide 10 Tryd.f10 rfl rfl rfl rfl rfl rfl rfl ⟨rfl, rfl, rfl, rfl, rfl⟩ rfl rfl rfl rfl rfl (by kernel_rfl) Tryd.func10 (by kernel_rfl)
    (of_decide_eq_true (by kernel_rfl)) (by unfold Func.isWrapper; rw [if_neg (by decide +kernel)]; exact ⟨rfl, rfl⟩)
    (fun os started H enc _ => law_liftedC own laidOut Tryd.underlying4 10 Tryd.f10 Rows.messageKindsSpec Tryd.func10 (by kernel_rfl) (by kernel_rfl) (by kernel_rfl) rfl
      (fun H ds hl => by
        have hl : ds.length = 3 := hl
        match ds, hl with
        | [d1, d2, d3], _ => rfl)
      (fun w => laidMetH Tryd.prog Rows.messageKindsRow.laid w)
      messageKinds_law os started H enc
      (ChangeSpec.witness_shaped (enc := enc) (C := Tryd.checked) (os := os) (X := fun w _ => laidMetH Tryd.prog Rows.messageKindsRow.laid w) false (World.laidAll Tryd.prog os Rows.messageKindsRow.laid) #[.agg #[.int .i64 0, .int .u32 0, .int .u32 0, .int .u32 0, .int .u32 0, .int .u32 0, .string ⟨#[]⟩, .string ⟨#[]⟩, .bool false, .slice none 0 0], .int .u8 0, .int .u16 0] 8 (World.laidAll_os _ _ _)
        (World.shaped_of_ZipB (by kernel_rfl) (by kernel_rfl)) (by kernel_rfl) (by kernel_rfl) (by kernel_rfl)
        (by rw [MakeChecks.laidMetH_plain _ _ _ (by kernel_rfl)]; exact laidMet_laidAll _ (by kernel_rfl) (by kernel_rfl))))

/-- The tied card. -/
theorem messageKinds_holds : Rows.MessageKindsCardSaid :=
  Claim7.holds_tied_plain_at .later [] [.data, .pinned] true (true, "9ca5a9288dacc4b7a82c1f30f08b8fed368f3e6485138822b6e4b460b2353955") false messageKinds_row (fun _ h => by cases h) (by kernel_rfl) (fun _ h => by cases h) messageKinds_row_tie rfl ⟨rfl, rfl⟩ (by kernel_rfl) rfl
    (fun f fn hf hfn => by
      obtain rfl : f = 10 := Option.some.inj ((show Tryd.prog.funcNamed "parlour/parlourlaw03.MessageKinds" = some 10 by kernel_rfl).symm.trans hf) |>.symm
      obtain rfl : fn = Tryd.f10 := (Option.some.inj (Tryd.func10.symm.trans hfn)).symm
      exact ⟨by kernel_rfl, fun j t ht => by
        rw [Tryd.params10] at ht
        have hm : t ∈ [47, 5, 55] := by simpa using Array.mem_of_getElem? ht
        have hall : ([47, 5, 55].all fun u => !Tryd.prog.wantsStandIn u) = true := by kernel_rfl
        exact (show Tryd.prog.wantsStandIn t = false by simpa using List.all_eq_true.1 hall t hm)⟩)
    (by kernel_rfl)
#print axioms messageKinds_holds
end Go.Proofs.YtdmjabfjkkjhbaaDoor
