/- The law RequestDecodes holds: for every name and bytes; no condition. -/
import Derived.Test.YtmpeidliacbelaaGreatDoorPkDec
import Derived.Test.YtmpeidliacbelaaGreatDoorPkOpen
import Derived.Test.YtmpeidliacbelaaGreatDoorTie
import Derived.Test.YtmpeidliacbelaaGreatDoorCards
namespace Go.Proofs.YtmpeidliacbelaaGreatDoor
set_option linter.all false
open Go.ChangeShapes Go.WideShapes Go.ChangeAt Go.RowKit Go.Deep

set_option maxRecDepth 100000 in
set_option maxHeartbeats 6400000 in
theorem requestDecodes_walk (s : ByteArray) (A : Option Addr) (l : List Int) (c : Nat) (i0 : Int) (w : World) (hm : w.cell? ⟨0, 0, none⟩ = some (.int .i64 i0)) (h : Rd w A l) (hl : InB l) (hlc : l.length ≤ c) (hcm : c ≤ maxLen) :
    Calls Tryz.prog 3 #[.string s, .slice A l.length c] w fun e w' => e = .returned (.bool true) ∧ Below w.heap.size w w' := by
  have h0 : 0 < w.heap.size := Nat.pos_of_ne_zero (fun e => by
    have := block_lt_of_cell hm
    simp only at this
    omega)
  have AL := alive04 w i0 hm
  obtain ⟨n, hn⟩ : ∃ n, l.length = n := ⟨_, rfl⟩
  rw [hn] at hlc ⊢
  replace hn := hide hn
  replace hl := hide hl
  by_cases h1 : (100000 : Int) < (n : Int)
  · go_enter Tryz.func3, Tryz.ntmps3
    go_wp2_with fail
    go_call AL as e w2 ⟨rfl, P2⟩
    go_wp2_with fail
    go_ret
    exact ⟨rfl, P2.below (Nat.le_refl _) (by simp)⟩
  by_cases h2 : (10000 : Int) < (s.size : Int)
  · go_enter Tryz.func3, Tryz.ntmps3
    go_wp2_with fail
    go_call AL as e w2 ⟨rfl, P2⟩
    go_wp2_with fail
    go_ret
    exact ⟨rfl, P2.below (Nat.le_refl _) (by simp)⟩
  go_enter Tryz.func3, Tryz.ntmps3
  go_wp2_with fail
  go_call AL as e w1 ⟨rfl, O1⟩
  clear AL
  have V6 : OwnB (w1.alloc (.cells #[] 5)) w1.heap.size (.slice (some ⟨w1.heap.size, 0, none⟩) 0 0) [] := ownB_lit w1 w1.heap.size [] (Nat.le_refl _) (by simp)
  have R6 : Rd (w1.alloc (.cells #[] 5)) A l := h.only (O1.alloc _)
  go_wp2_with (at_builtin; go_must (refine wpList_app3 rfl (.tmp 21) (.tmp 22) rfl w1.heap.size (.slice (some ⟨w1.heap.size, 0, none⟩) 0 0) [] rfl V6 A c l n hn.out rfl R6 (by have := hn.out; simp; omega) (by simp) ?_; intro v8 w8 V8 P8 G8; replace V8 := V8.out; rw [List.nil_append] at V8; have hvb := V8.block; obtain ⟨A8, k8, rfl, R8, q8, m8, low8⟩ := V8.rd; rw [hn.out] at hvb q8 ⊢; have X8 : Only [] w1 w8 := ((Only.refl [] w1).alloc _).trans P8 (fun x hx => .inr (by simp [Value.ownBlock] at hx; omega))))
  have O8 : Only [] w w8 := O1.trans X8 (by simp)
  have DC := rdecode_any s A8 l k8 i0 w8 (cellL O8 h0 (by simp) hm) R8 hl.out (by have := hn.out; omega) (by have := hn.out; omega) m8 (fun a ha => (hvb a.block (by rw [ha]; rfl)).2)
  rw [hn.out] at DC
  clear V6 R6 V8
  go_wp2_with fail
  go_call DC as e w9 ⟨P9, m, E, rfl, ok, new, soft, hD⟩
  clear DC
  obtain ⟨w10, hw10⟩ : ∃ w10, w10 = w9.alloc (.cells #[.int .i64 m.kind, .string m.text, .string m.value, .string m.lang, .int .u32 m.cols, .int .u32 m.rows, .int .u32 m.width, .int .u32 m.height, .slice m.mA m.modes.length m.mc, .bool m.on, .int .u32 m.code] 28) := ⟨_, rfl⟩
  have P10 : Only [] w9 w10 := by rw [hw10]; exact (Only.refl _ _).alloc _
  have K10 : Blk w10 w9.heap.size 28 m.cells := by rw [hw10]; exact Blk.new w9 _ _
  have O10 : Only [] w w10 := (O8.trans P9 (by simp)).trans P10 (by simp)
  have RD := refRDecode_any s A l c w10 (h.only O10) hl.out (by have := hn.out; omega) (by have := hn.out; omega) hcm
  rw [hn.out] at RD
  unfold RQ.val
  go_wp2_with fail
  rw [← hw10]
  replace hw10 := hide hw10
  go_call RD as e w11 ⟨P11, m2, E2, rfl, ok2, hD2⟩
  clear RD
  obtain ⟨rfl, same⟩ := decR_same hl.out hD hD2
  clear hD hD2
  obtain ⟨w12, hw12⟩ : ∃ w12, w12 = w11.alloc (.cells #[.int .i64 m2.kind, .string m2.text, .string m2.value, .string m2.lang, .int .u32 m2.cols, .int .u32 m2.rows, .int .u32 m2.width, .int .u32 m2.height, .slice m2.mA m2.modes.length m2.mc, .bool m2.on, .int .u32 m2.code] 28) := ⟨_, rfl⟩
  have P12 : Only [] w11 w12 := by rw [hw12]; exact (Only.refl _ _).alloc _
  have P1012 : Only [] w10 w12 := P11.trans P12 (by simp)
  have K12 := K10.only P1012 (by simp)
  have P912 : Only [] w9 w12 := P10.trans P1012 (by simp)
  have SM := rsame_true m m2 w12 (ok.only P912) (ok2.only P12) same
  have hk11 : w9.heap.size < w11.heap.size := by have := K10.lt; have := P11.size; omega
  have K11 := K10.only P11 (by simp)
  have hne : ¬ w9.heap.size = w11.heap.size := by omega
  have hne2 : ¬ w11.heap.size = w9.heap.size := by omega
  have a0 : w11.cell? ⟨w9.heap.size, 0, none⟩ = some (.int .i64 m.kind) := K11.cell 0
  have a1 : w11.cell? ⟨w9.heap.size, 1, none⟩ = some (.string m.text) := K11.cell 1
  have a2 : w11.cell? ⟨w9.heap.size, 2, none⟩ = some (.string m.value) := K11.cell 2
  have a3 : w11.cell? ⟨w9.heap.size, 3, none⟩ = some (.string m.lang) := K11.cell 3
  have a4 : w11.cell? ⟨w9.heap.size, 4, none⟩ = some (.int .u32 m.cols) := K11.cell 4
  have a5 : w11.cell? ⟨w9.heap.size, 5, none⟩ = some (.int .u32 m.rows) := K11.cell 5
  have a6 : w11.cell? ⟨w9.heap.size, 6, none⟩ = some (.int .u32 m.width) := K11.cell 6
  have a7 : w11.cell? ⟨w9.heap.size, 7, none⟩ = some (.int .u32 m.height) := K11.cell 7
  have a8 : w11.cell? ⟨w9.heap.size, 8, none⟩ = some (.slice m.mA m.modes.length m.mc) := K11.cell 8
  have a9 : w11.cell? ⟨w9.heap.size, 9, none⟩ = some (.bool m.on) := K11.cell 9
  have a10 : w11.cell? ⟨w9.heap.size, 10, none⟩ = some (.int .u32 m.code) := K11.cell 10
  unfold RQ.val at SM ⊢
  go_wp2_with fail
  rw [← hw12]
  replace hw12 := hide hw12
  go_call SM as e w13 ⟨rfl, P13⟩
  clear SM
  clear a0 a1 a2 a3 a4 a5 a6 a7 a8 a9 a10
  have P913 : Only [] w9 w13 := P912.trans P13 (by simp)
  have K13 := K12.only P13 (by simp)
  have ok13 := ok.only P913
  have soft13 : RSoft m w13 := soft.onlyL ok P913 (by simp)
  have O9 : Only [] w w9 := O8.trans P9 (by simp)
  have P813 : Only [] w8 w13 := P9.trans P913 (by simp)
  have O13 : Only [] w w13 := O8.trans P813 (by simp)
  have d8 : w13.cell? ⟨w9.heap.size, 8, none⟩ = some (.slice m.mA m.modes.length m.mc) := K13.cell 8
  obtain ⟨dn, hdn⟩ : ∃ dn, m.modes.length = dn := ⟨_, rfl⟩
  have hdn9 : dn ≤ 9223372036854775807 := by have := ok.mle; have := ok.mmax; unfold maxLen at this; omega
  rw [hdn] at d8
  have SF : Soft [⟨0, 0, m.mA, m.mc, m.modes, none, 0, []⟩] w13 := by
    intro f hf b off ha i hi
    simp only [List.mem_singleton] at hf
    subst hf
    dsimp only at ha hi
    refine ⟨?_, ?_⟩
    · obtain ⟨b', off', e, _, hc⟩ := ok13.modes (by omega)
      rw [ha] at e
      injection e with e
      injection e with e1 e2
      subst e1
      subst e2
      exact ⟨_, hc i _ (List.getElem?_eq_getElem hi)⟩
    · have := soft13 _ ha i hi
      rwa [Addr.add_lit] at this
  replace hdn := hide hdn
  go_wp2_with fail
  go_loopw [48] (fun i wr => ∃ k : Nat, k ≤ dn ∧ i = .int .i64 k ∧ Soft [⟨0, 0, m.mA, m.mc, m.modes, none, 0, []⟩] wr ∧ Only (m.mA.toList.map (·.block)) w13 wr ∧ wr.cell? ⟨w9.heap.size, 8, none⟩ = some (.slice m.mA dn m.mc)) (fun i _ => dn - (intOf i).toNat)
  case atStart => exact ⟨0, Nat.zero_le _, rfl, SF, Only.refl _ _, d8⟩
  case round =>
    obtain ⟨wp, rfl⟩ : ∃ wp : World, wp = wr := ⟨_, rfl⟩
    obtain ⟨k, hk, rfl, S, X, dp⟩ := hrel
    by_cases hlt : k < dn
    · obtain ⟨b, off, hA, hbl, _⟩ := ok.modes (by have := hdn.out; omega)
      have hblk : w8.heap.size ≤ b := new _ hA
      have hb9 : b < w9.heap.size := hbl
      obtain ⟨⟨x', cx'⟩, fx'⟩ := S ⟨0, 0, m.mA, m.mc, m.modes, none, 0, []⟩ (by simp) b off hA k (by have := hdn.out; dsimp only; omega)
      rw [hA] at dp
      have hq : ¬ w9.heap.size = b := by omega
      have hq2 : ¬ b = w9.heap.size := by omega
      go_wp2_with fail
      go_region
      go_wp2_with fail
      go_roundw
      case rel =>
        refine ⟨k + 1, by omega, by go_num, (S.set ⟨b, off + k, none⟩ _).drew, (X.setCell (p := ⟨b, off + k, none⟩) (.inl (by rw [hA]; simp)) _).drew, ?_⟩
        rw [hA]
        exact cellL ((Only.refl [b] wp).setCell (p := ⟨b, off + k, none⟩) (.inl (by simp)) _) (by have := X.size; have := K13.lt; omega) (by simp; omega) dp
      case measure => simp [intOf]; omega
    · obtain rfl : k = dn := by omega
      have X8 : Only [] w8 wp := P813.trans X (fun x hx => by
        cases hA : m.mA with
        | none => rw [hA] at hx; simp at hx
        | some a => rw [hA] at hx; simp at hx; subst hx; exact .inr (new a hA))
      have OZ : Only [] w wp := O8.trans X8 (by simp)
      have BY := bytes_any wp A8 A l l k8 c (R8.only X8) (h.only OZ) (by have := hn.out; omega) (by have := hn.out; omega)
      rw [show eqB l l = true from decide_eq_true rfl, hn.out] at BY
      go_wp2_with fail
      go_call BY as e w14 ⟨rfl, P14⟩
      go_wp2_with fail
      go_ret
      exact ⟨rfl, (OZ.trans P14 (by simp)).below (Nat.le_refl _) (by simp)⟩

theorem mlen {W : World} (h : W.ShapedOpen Tryz.prog) : ∃ m, W.cell? ⟨0, 0, none⟩ = some (.int .i64 m) :=
  cell_of_shapedOpen_int (t := 3) (zero := #[.int .i64 0]) h (of_decide_eq_true (by kernel_rfl)) (by kernel_rfl) rfl (by kernel_rfl) (by kernel_rfl) Tryz.underlying3

set_option maxRecDepth 100000 in
theorem requestDecodes_law : LawWalkC Tryz.prog 3 Tryz.f3 := by
  intro H enc W base args ds ps hval hA hsz hshape
  rw [Tryz.params3] at hA hval hsz
  obtain ⟨m, hm⟩ := mlen hshape
  obtain ⟨v0, v1, d0, d1, p0, p1, rfl, rfl, rfl, h0, h1⟩ := trodAll_two hA
  obtain ⟨s, rfl, rfl, rfl, _⟩ := Go.ChangeMaps.open_string Tryz.underlying9 (hval 0 9 v0 rfl rfl) h0
  obtain ⟨A, l, c, rfl, hlc, hcm, hR, hz, _⟩ := open_sl Tryz.underlying22 Tryz.underlying5 (by kernel_rfl) (hval 1 22 v1 rfl rfl) h1
  exact requestDecodes_walk s A l c m W hm hR (fun x hx => by have := wf_u8 (hz x hx); omega) hlc hcm

set_option maxRecDepth 100000 in
theorem requestDecodes_row : Rows.RequestDecodesSaid :=
  OpenClaim.holds_of_wide 3 Tryz.f3 rfl rfl rfl rfl rfl rfl rfl ⟨rfl, rfl, rfl, rfl, rfl⟩ rfl rfl rfl rfl rfl (by kernel_rfl) Tryz.func3 (by kernel_rfl)
    (of_decide_eq_true (by kernel_rfl)) (by unfold Func.isWrapper; rw [if_neg (by decide +kernel)]; exact ⟨rfl, rfl⟩)
    (fun os started H enc _ => law_liftedC own laidOut Tryz.underlying4 3 Tryz.f3 Rows.requestDecodesSpec Tryz.func3 (by kernel_rfl) (by kernel_rfl) (by kernel_rfl) rfl
      (fun H ds hl => by
        have hl : ds.length = 2 := hl
        match ds, hl with
        | [d1, d2], _ => rfl)
      (fun w => laidMetH Tryz.prog Rows.requestDecodesRow.laid w)
      requestDecodes_law os started H enc
      (ChangeSpec.witness_shaped (enc := enc) (C := Tryz.checked) (os := os) (X := fun w _ => laidMetH Tryz.prog Rows.requestDecodesRow.laid w) false (World.laidAll Tryz.prog os Rows.requestDecodesRow.laid) #[.string ⟨#[]⟩, .slice none 0 0] 8 (World.laidAll_os _ _ _)
        (World.shaped_of_ZipB (by kernel_rfl) (by kernel_rfl)) (by kernel_rfl) (by kernel_rfl) (by kernel_rfl)
        (by rw [MakeChecks.laidMetH_plain _ _ _ (by kernel_rfl)]; exact laidMet_laidAll _ (by kernel_rfl) (by kernel_rfl))))

/-- The tied card. -/
theorem requestDecodes_holds : Rows.RequestDecodesCardSaid :=
  Claim7.holds_tied_plain_at .later [] [.data, .pinned] true (true, "354fa975cd925e7de3bd5655de4a4660f343580419ec47cdc9de02947a434fe0") false requestDecodes_row (fun _ h => by cases h) (by kernel_rfl) (fun _ h => by cases h) requestDecodes_row_tie rfl ⟨rfl, rfl⟩ (by kernel_rfl) rfl
    (fun f fn hf hfn => by
      obtain rfl : f = 3 := Option.some.inj ((show Tryz.prog.funcNamed "parlour/parlourlaw04.RequestDecodes" = some 3 by kernel_rfl).symm.trans hf) |>.symm
      obtain rfl : fn = Tryz.f3 := (Option.some.inj (Tryz.func3.symm.trans hfn)).symm
      exact ⟨by kernel_rfl, fun j t ht => by
        rw [Tryz.params3] at ht
        have hm : t ∈ [9, 22] := by simpa using Array.mem_of_getElem? ht
        have hall : ([9, 22].all fun u => !Tryz.prog.wantsStandIn u) = true := by kernel_rfl
        exact (show Tryz.prog.wantsStandIn t = false by simpa using List.all_eq_true.1 hall t hm)⟩)
    (by kernel_rfl)
#print axioms requestDecodes_holds
end Go.Proofs.YtmpeidliacbelaaGreatDoor
