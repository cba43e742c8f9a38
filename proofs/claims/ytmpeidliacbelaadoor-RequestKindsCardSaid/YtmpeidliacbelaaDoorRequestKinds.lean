/- The law RequestKinds holds: for every two kinds and bytes; no condition. -/
import Derived.Test.YtmpeidliacbelaaDoorReqN
import Derived.Test.YtmpeidliacbelaaDoorReqL
import Derived.Test.YtmpeidliacbelaaDoorReqK
import Derived.Test.YtmpeidliacbelaaDoorOpenR
import Derived.Test.YtmpeidliacbelaaDoorFrameC
import Derived.Test.YtmpeidliacbelaaDoorTie
import Derived.Test.YtmpeidliacbelaaDoorCards
import Derived.Laws.Concat
namespace Go.Proofs.YtmpeidliacbelaaDoor
set_option linter.all false
open Go.ChangeShapes Go.WideShapes Go.ChangeAt Go.RowKit Go.Deep

theorem rname_s (k : Nat) (h1 : 1 ≤ k) (h2 : k ≤ 10) {l : List Int} {m : RQ} {E : Int} (h : DecR (rname k ++ ⟨#[115]⟩) l m E) : E = 8 := by
  unfold DecR at h
  rw [show (rname k ++ ⟨#[115]⟩ : ByteArray).data.toList = rnameL k ++ [115] by rw [ByteArray.data_append, Array.toList_append, rname_data], kindL_s k h1 h2] at h
  exact h.1
theorem rname_size (k : Nat) (h1 : 1 ≤ k) (h2 : k ≤ 10) : (rname k).size ≤ 13 := by
  rcases k10 h1 h2 with rfl | rfl | rfl | rfl | rfl | rfl | rfl | rfl | rfl | rfl <;> decide
theorem rname_0 {l : List Int} {m : RQ} {E : Int} (h : DecR ⟨#[]⟩ l m E) : E = 8 := by
  unfold DecR at h
  rw [show kindL (⟨#[]⟩ : ByteArray).data.toList = none by decide] at h
  exact h.1
/-- What Name answers. -/
theorem rName_all (a : Int) : ∃ (s : ByteArray) (ok : Bool), (∀ w, Calls Tryd.prog 12 #[.int .i64 a] w fun e w' => e = .returned (.tuple #[.string s, .bool ok]) ∧ Only [] w w') ∧ ((ok = true ∧ ∃ k : Nat, 1 ≤ k ∧ k ≤ 10 ∧ a = k ∧ s = rname k) ∨ (ok = false ∧ s = ⟨#[]⟩)) := by
  by_cases h : 1 ≤ a ∧ a ≤ 10
  · obtain ⟨k, rfl⟩ := Int.eq_ofNat_of_zero_le (show 0 ≤ a by omega)
    exact ⟨rname k, true, fun w => rName_any k (by omega) (by omega) w, .inl ⟨rfl, k, by omega, by omega, rfl, rfl⟩⟩
  · exact ⟨⟨#[]⟩, false, fun w => rName_none a h w, .inr ⟨rfl, rfl⟩⟩
set_option maxRecDepth 100000 in
set_option maxHeartbeats 6400000 in
theorem requestKinds_walk (a b : Int) (A : Option Addr) (l : List Int) (c : Nat) (i0 : Int) (w : World) (hm : w.cell? ⟨0, 0, none⟩ = some (.int .i64 i0)) (hR : Rd w A l) (hl : ∀ x ∈ l, 0 ≤ x ∧ x < 256) (hlc : l.length ≤ c) (hcm : c ≤ maxLen) (hal : ∀ a, A = some a → a.block < w.heap.size) :
    Calls Tryd.prog 5 #[.int .i64 a, .int .i64 b, .slice A l.length c] w fun e w' => e = .returned (.bool true) ∧ Below w.heap.size w w' := by
  have h0 : 0 < w.heap.size := Nat.pos_of_ne_zero (fun e => by
    have := block_lt_of_cell hm
    simp only at this
    omega)
  have AL := alive04 w i0 hm
  obtain ⟨ln, hn⟩ : ∃ ln, l.length = ln := ⟨_, rfl⟩
  rw [hn] at hlc ⊢
  replace hn := hide hn
  by_cases h1 : (1000 : Int) < (ln : Int)
  · go_enter Tryd.func5, Tryd.ntmps5
    go_wp2_with fail
    go_call AL as e w2 ⟨rfl, P2⟩
    go_wp2_with fail
    go_ret
    exact ⟨rfl, P2.below (Nat.le_refl _) (by simp)⟩
  obtain ⟨s, ok, NA, hA⟩ := rName_all a
  obtain ⟨t, is, NB, hB⟩ := rName_all b
  replace NA := hide NA
  replace NB := hide NB
  have A3 := fun w => NA.out w
  replace hA := hide hA
  replace hB := hide hB
  go_enter Tryd.func5, Tryd.ntmps5
  go_wp2_with fail
  go_call AL as e w2 ⟨rfl, P2⟩
  clear AL A3
  have A2 := NA.out w2
  go_wp2_with fail
  go_call A2 as e w3 ⟨rfl, P3⟩
  clear A2
  have A2 := NB.out w3
  go_wp2_with fail
  go_call A2 as e w4 ⟨rfl, P4⟩
  clear A2
  have O4 : Only [] w w4 := (P2.trans P3 (by simp)).trans P4 (by simp)
  rcases hA.out with ⟨rfl, i, i1, i2, ha, hs⟩ | ⟨rfl, rfl⟩
  · rcases hB.out with ⟨rfl, j, j1, j2, hb, ht⟩ | ⟨rfl, rfl⟩
    · have hRd : ∀ w', Only [] w w' → ∀ nm, Calls Tryd.prog 7 #[.string nm, .slice A ln c] w' (RDecPost w' nm l) := fun w' O nm => by
        have := rdecode_any nm A l c i0 w' (cellL O h0 (by simp) hm) (hR.only O) hl (by have := hn.out; omega) (by have := hn.out; omega) hcm (fun a ha => by have := hal a ha; have := O.size; omega)
        rwa [hn.out] at this
      replace hRd := hide hRd
      have D1 := hRd.out w4 O4 (s ++ ⟨#[115]⟩)
      have hsz : s.size ≤ 13 := by rw [hs]; exact rname_size i i1 i2
      have hadd : ∀ w, (Op.stringOp .add s ⟨#[115]⟩).run Tryd.prog w = .ok (.string (s ++ ⟨#[115]⟩)) w := fun w => run_string_add_sum w s ⟨#[115]⟩ (by rw [show (⟨#[115]⟩ : ByteArray).size = 1 from rfl]; omega)
      replace ha := hide ha
      replace hb := hide hb
      replace hs := hide hs
      replace ht := hide ht
      go_wp2_with fail
      go_call D1 as e w5 ⟨P5, x, E, rfl, _, _, _, hD⟩
      clear D1
      rw [hs.out] at hD
      obtain rfl := rname_s i i1 i2 hD
      clear hD
      have P6 : Only [] w5 (w5.alloc (.cells #[.int .i64 x.kind, .string x.text, .string x.value, .string x.lang, .int .u32 x.cols, .int .u32 x.rows, .int .u32 x.width, .int .u32 x.height, .slice x.mA x.modes.length x.mc, .bool x.on, .int .u32 x.code] 28)) := (Only.refl _ _).alloc _
      obtain ⟨w6, hw6⟩ : ∃ w6, w6 = w5.alloc (.cells #[.int .i64 x.kind, .string x.text, .string x.value, .string x.lang, .int .u32 x.cols, .int .u32 x.rows, .int .u32 x.width, .int .u32 x.height, .slice x.mA x.modes.length x.mc, .bool x.on, .int .u32 x.code] 28) := ⟨_, rfl⟩
      rw [← hw6] at P6
      have O6 : Only [] w w6 := (O4.trans P5 (by simp)).trans P6 (by simp)
      have D2 := hRd.out w6 O6 ⟨#[]⟩
      unfold RQ.val
      go_wp2_with fail
      rw [← hw6]
      replace hw6 := hide hw6
      go_call D2 as e w7 ⟨P7, y, E2, rfl, _, _, _, hD⟩
      clear D2
      obtain rfl := rname_0 hD
      clear hD
      have O8 : Only [] w (w7.alloc (.cells #[.int .i64 y.kind, .string y.text, .string y.value, .string y.lang, .int .u32 y.cols, .int .u32 y.rows, .int .u32 y.width, .int .u32 y.height, .slice y.mA y.modes.length y.mc, .bool y.on, .int .u32 y.code] 28)) := (O6.trans P7 (by simp)).alloc _
      replace O8 := hide O8
      unfold RQ.val
      by_cases hij : i = j
      · have e1 : (a == b) = true := by simp [ha.out, hb.out, hij]
        have e2 : (s.toList == t.toList) = true := by rw [hs.out, ht.out, hij]; simp
        clear ha hb hs ht
        replace hij := hide hij
        go_wp2_with fail
        go_ret
        exact ⟨rfl, O8.out.below (Nat.le_refl _) (by simp)⟩
      · have e1 : (a == b) = false := by rw [beq_eq_false_iff_ne, ha.out, hb.out]; omega
        have e2 : (s.toList == t.toList) = false := by
          rw [hs.out, ht.out]
          exact str_ne (fun h => hij (rname_inj i1 i2 j1 j2 (by rw [← rname_data, ← rname_data, h])))
        clear ha hb hs ht
        replace hij := hide hij
        go_wp2_with fail
        go_ret
        exact ⟨rfl, O8.out.below (Nat.le_refl _) (by simp)⟩
    · clear NA NB hA hB
      go_wp2_with fail
      go_ret
      exact ⟨rfl, O4.below (Nat.le_refl _) (by simp)⟩
  · rcases hB.out with ⟨rfl, j, j1, j2, hb, ht⟩ | ⟨rfl, rfl⟩
    · replace hb := hide hb
      replace ht := hide ht
      go_wp2_with fail
      go_ret
      exact ⟨rfl, O4.below (Nat.le_refl _) (by simp)⟩
    · go_wp2_with fail
      go_ret
      exact ⟨rfl, O4.below (Nat.le_refl _) (by simp)⟩

theorem mlen {W : World} (h : W.ShapedOpen Tryd.prog) : ∃ m, W.cell? ⟨0, 0, none⟩ = some (.int .i64 m) :=
  cell_of_shapedOpen_int (t := 3) (zero := #[.int .i64 0]) h (of_decide_eq_true (by kernel_rfl)) (by kernel_rfl) rfl (by kernel_rfl) (by kernel_rfl) Tryd.underlying3

set_option maxRecDepth 100000 in
theorem requestKinds_law : LawWalkC Tryd.prog 5 Tryd.f5 := by
  intro H enc W base args ds ps hval hA hsz hshape
  rw [Tryd.params5] at hA hval hsz
  obtain ⟨m, hm⟩ := mlen hshape
  obtain ⟨v0, v1, v2, d0, d1, d2, p0, p1, p2, rfl, rfl, rfl, h0, h1, h2⟩ := trodAll_three hA
  obtain ⟨a, rfl, rfl, rfl, _⟩ := open_int Tryd.underlying3 (hval 0 3 v0 rfl rfl) h0
  obtain ⟨b, rfl, rfl, rfl, _⟩ := open_int Tryd.underlying3 (hval 1 3 v1 rfl rfl) h1
  obtain ⟨A, l, c, rfl, hlc, hcm, hR, hz, hal⟩ := open_sl Tryd.underlying22 Tryd.underlying5 (by kernel_rfl) (hval 2 22 v2 rfl rfl) h2
  exact requestKinds_walk a b A l c m W hm hR (fun x hx => by have := wf_u8 (hz x hx); omega) hlc hcm hal

set_option maxRecDepth 100000 in
theorem requestKinds_row : Rows.RequestKindsSaid :=
  OpenClaim.holds_of_wide 5 Tryd.f5 rfl rfl rfl rfl rfl rfl rfl ⟨rfl, rfl, rfl, rfl, rfl⟩ rfl rfl rfl rfl rfl (by kernel_rfl) Tryd.func5 (by kernel_rfl)
    (of_decide_eq_true (by kernel_rfl)) (by unfold Func.isWrapper; rw [if_neg (by decide +kernel)]; exact ⟨rfl, rfl⟩)
    (fun os started H enc _ => law_liftedC own laidOut Tryd.underlying4 5 Tryd.f5 Rows.requestKindsSpec Tryd.func5 (by kernel_rfl) (by kernel_rfl) (by kernel_rfl) rfl
      (fun H ds hl => by
        have hl : ds.length = 3 := hl
        match ds, hl with
        | [d1, d2, d3], _ => rfl)
      (fun w => laidMetH Tryd.prog Rows.requestKindsRow.laid w)
      requestKinds_law os started H enc
      (ChangeSpec.witness_shaped (enc := enc) (C := Tryd.checked) (os := os) (X := fun w _ => laidMetH Tryd.prog Rows.requestKindsRow.laid w) false (World.laidAll Tryd.prog os Rows.requestKindsRow.laid) #[.int .i64 0, .int .i64 0, .slice none 0 0] 8 (World.laidAll_os _ _ _)
        (World.shaped_of_ZipB (by kernel_rfl) (by kernel_rfl)) (by kernel_rfl) (by kernel_rfl) (by kernel_rfl)
        (by rw [MakeChecks.laidMetH_plain _ _ _ (by kernel_rfl)]; exact laidMet_laidAll _ (by kernel_rfl) (by kernel_rfl))))

/-- The tied card. -/
theorem requestKinds_holds : Rows.RequestKindsCardSaid :=
  Claim7.holds_tied_plain_at .later [] [.data, .pinned] true (true, "45ca11d350300ed7c4b6c61326bb39e3155c021bb1d4bb7c9a0938a4c00f5bfb") false requestKinds_row (fun _ h => by cases h) (by kernel_rfl) (fun _ h => by cases h) requestKinds_row_tie rfl ⟨rfl, rfl⟩ (by kernel_rfl) rfl
    (fun f fn hf hfn => by
      obtain rfl : f = 5 := Option.some.inj ((show Tryd.prog.funcNamed "parlour/parlourlaw04.RequestKinds" = some 5 by kernel_rfl).symm.trans hf) |>.symm
      obtain rfl : fn = Tryd.f5 := (Option.some.inj (Tryd.func5.symm.trans hfn)).symm
      exact ⟨by kernel_rfl, fun j t ht => by
        rw [Tryd.params5] at ht
        have hm : t ∈ [3, 22] := by simpa using Array.mem_of_getElem? ht
        have hall : ([3, 22].all fun u => !Tryd.prog.wantsStandIn u) = true := by kernel_rfl
        exact (show Tryd.prog.wantsStandIn t = false by simpa using List.all_eq_true.1 hall t hm)⟩)
    (by kernel_rfl)
#print axioms requestKinds_holds
end Go.Proofs.YtmpeidliacbelaaDoor
