/- The law RequestBack holds: for every request; no condition. -/
import Derived.Test.YtmpeidliacbelaaDoorReqN
import Derived.Test.YtmpeidliacbelaaDoorReqL
import Derived.Test.YtmpeidliacbelaaDoorReqK
import Derived.Test.YtmpeidliacbelaaDoorOpenR
import Derived.Test.YtmpeidliacbelaaDoorFrameC
import Derived.Test.YtmpeidliacbelaaDoorTie
import Derived.Test.YtmpeidliacbelaaDoorCards
namespace Go.Proofs.YtmpeidliacbelaaDoor
set_option linter.all false
open Go.ChangeShapes Go.WideShapes Go.ChangeAt Go.RowKit Go.Deep

set_option maxRecDepth 100000 in
set_option maxHeartbeats 6400000 in
theorem requestBack_walk (m : RQ) (i0 : Int) (w : World) (hm : w.cell? ⟨0, 0, none⟩ = some (.int .i64 i0)) (ok : m.ok w) :
    Calls Tryd.prog 4 #[m.val] w fun e w' => e = .returned (.bool true) ∧ Below w.heap.size w w' := by
  obtain ⟨w1, hw1⟩ : ∃ w1, w1 = w.alloc (.cells #[.int .i64 m.kind, .string m.text, .string m.value, .string m.lang, .int .u32 m.cols, .int .u32 m.rows, .int .u32 m.width, .int .u32 m.height, .slice m.mA m.modes.length m.mc, .bool m.on, .int .u32 m.code] 28) := ⟨_, rfl⟩
  have P1 : Only [] w w1 := by rw [hw1]; exact (Only.refl _ _).alloc _
  have K1 : Blk w1 w.heap.size 28 m.cells := by rw [hw1]; exact Blk.new w _ _
  have h0 : 0 < w.heap.size := Nat.pos_of_ne_zero (fun e => by
    have := block_lt_of_cell hm
    simp only at this
    omega)
  have AL := alive04 w1 i0 (cellL P1 h0 (by simp) hm)
  unfold RQ.val
  go_enter Tryd.func4, Tryd.ntmps4
  go_wp2_with fail
  rw [← hw1]
  replace hw1 := hide hw1
  go_call AL as e w2 ⟨rfl, P2⟩
  clear AL
  have O2 : Only [] w w2 := P1.trans P2 (by simp)
  have K2 := K1.only P2 (by simp)
  have GR := rgreat_any m w2
  unfold RQ.val at GR
  have a0 : w2.cell? ⟨w.heap.size, 0, none⟩ = some (.int .i64 m.kind) := K2.cell 0
  have a1 : w2.cell? ⟨w.heap.size, 1, none⟩ = some (.string m.text) := K2.cell 1
  have a2 : w2.cell? ⟨w.heap.size, 2, none⟩ = some (.string m.value) := K2.cell 2
  have a3 : w2.cell? ⟨w.heap.size, 3, none⟩ = some (.string m.lang) := K2.cell 3
  have a4 : w2.cell? ⟨w.heap.size, 4, none⟩ = some (.int .u32 m.cols) := K2.cell 4
  have a5 : w2.cell? ⟨w.heap.size, 5, none⟩ = some (.int .u32 m.rows) := K2.cell 5
  have a6 : w2.cell? ⟨w.heap.size, 6, none⟩ = some (.int .u32 m.width) := K2.cell 6
  have a7 : w2.cell? ⟨w.heap.size, 7, none⟩ = some (.int .u32 m.height) := K2.cell 7
  have a8 : w2.cell? ⟨w.heap.size, 8, none⟩ = some (.slice m.mA m.modes.length m.mc) := K2.cell 8
  have a9 : w2.cell? ⟨w.heap.size, 9, none⟩ = some (.bool m.on) := K2.cell 9
  have a10 : w2.cell? ⟨w.heap.size, 10, none⟩ = some (.int .u32 m.code) := K2.cell 10
  go_wp2_with fail
  go_call GR as e w3 ⟨P3, b, rfl, hb⟩
  clear GR
  clear a0 a1 a2 a3 a4 a5 a6 a7 a8 a9 a10
  have O3 : Only [] w w3 := O2.trans P3 (by simp)
  have K3 := K2.only P3 (by simp)
  cases b with
  | true =>
    clear hb
    go_wp2_with fail
    go_ret
    exact ⟨rfl, O3.below (Nat.le_refl _) (by simp)⟩
  | false =>
    obtain ⟨g1, g2, g3, g4⟩ := hb rfl
    have EN := rencode_any m w3 (ok.only O3) (by omega) (by omega) (by omega)
    unfold EncPost at EN
    obtain ⟨E, hE⟩ : ∃ E, (encR m).1 = E := ⟨_, rfl⟩
    obtain ⟨l, hl⟩ : ∃ l, (encR m).2 = l := ⟨_, rfl⟩
    obtain ⟨nm, hnm⟩ : ∃ nm, encName m = nm := ⟨_, rfl⟩
    rw [hE, hl, hnm] at EN
    unfold RQ.val at EN
    have a0 : w3.cell? ⟨w.heap.size, 0, none⟩ = some (.int .i64 m.kind) := K3.cell 0
    have a1 : w3.cell? ⟨w.heap.size, 1, none⟩ = some (.string m.text) := K3.cell 1
    have a2 : w3.cell? ⟨w.heap.size, 2, none⟩ = some (.string m.value) := K3.cell 2
    have a3 : w3.cell? ⟨w.heap.size, 3, none⟩ = some (.string m.lang) := K3.cell 3
    have a4 : w3.cell? ⟨w.heap.size, 4, none⟩ = some (.int .u32 m.cols) := K3.cell 4
    have a5 : w3.cell? ⟨w.heap.size, 5, none⟩ = some (.int .u32 m.rows) := K3.cell 5
    have a6 : w3.cell? ⟨w.heap.size, 6, none⟩ = some (.int .u32 m.width) := K3.cell 6
    have a7 : w3.cell? ⟨w.heap.size, 7, none⟩ = some (.int .u32 m.height) := K3.cell 7
    have a8 : w3.cell? ⟨w.heap.size, 8, none⟩ = some (.slice m.mA m.modes.length m.mc) := K3.cell 8
    have a9 : w3.cell? ⟨w.heap.size, 9, none⟩ = some (.bool m.on) := K3.cell 9
    have a10 : w3.cell? ⟨w.heap.size, 10, none⟩ = some (.int .u32 m.code) := K3.cell 10
    replace hE := hide hE
    replace hl := hide hl
    replace hnm := hide hnm
    go_wp2_with fail
    go_call EN as e w4 ⟨P4, v, rfl, V⟩
    clear EN
    clear a0 a1 a2 a3 a4 a5 a6 a7 a8 a9 a10
    have O4 : Only [] w w4 := O3.trans P4 (by simp)
    have K4 := K3.only P4 (by simp)
    have hvb := V.block
    obtain ⟨A1, k1, rfl, R1, q1, m1, a1⟩ := V.rd
    clear V
    by_cases hz : E = 0
    · subst hz
      have hz := hE.out
      obtain ⟨k, hk1, hk2, hkk, hask, hok, henc, hname⟩ := encR_ok hz
      have hrange : InB l := by
        rw [← hl.out, henc]
        exact parts_inb ok k hk1 hk2
      have hlen : l.length ≤ 33792 := by rw [← hl.out, henc]; exact hok.2.2
      obtain ⟨ln, hn⟩ : ∃ ln, l.length = ln := ⟨_, rfl⟩
      have m4 : w4.cell? ⟨0, 0, none⟩ = some (.int .i64 i0) := cellL O4 h0 (by simp) hm
      have DC := rdecode_any nm A1 l k1 i0 w4 m4 R1 hrange (by omega) q1 m1 (fun a ha => (hvb a.block (by rw [ha]; rfl)).2)
      rw [hn] at DC hlen q1 ⊢
      replace hn := hide hn
      replace hrange := hide hrange
      replace henc := hide henc
      replace hname := hide hname
      replace hask := hide hask
      replace hz := hide hz
      go_wp2_with fail
      go_call DC as e w5 ⟨P5, x, D, rfl, okx, newx, _, hD⟩
      clear DC
      rw [← hl.out, ← hnm.out] at hD
      obtain ⟨rfl, hsame, _⟩ := rback_law ok.nums hz.out hD
      rw [hkk, Int.toNat_natCast] at hsame
      have O5 : Only [] w w5 := O4.trans P5 (by simp)
      have K5 := K4.only P5 (by simp)
      have NA := rName_any k hk1 hk2 (w5.alloc (.cells #[.int .i64 x.kind, .string x.text, .string x.value, .string x.lang, .int .u32 x.cols, .int .u32 x.rows, .int .u32 x.width, .int .u32 x.height, .slice x.mA x.modes.length x.mc, .bool x.on, .int .u32 x.code] 28))
      rw [show rname k = nm from by rw [← hname.out, hnm.out], ← hkk] at NA
      have OWN := fun w' => rown_any m w' k hk1 hk2 hkk
      replace hkk := hide hkk
      obtain ⟨w6, hw6⟩ : ∃ w6, w6 = w5.alloc (.cells #[.int .i64 x.kind, .string x.text, .string x.value, .string x.lang, .int .u32 x.cols, .int .u32 x.rows, .int .u32 x.width, .int .u32 x.height, .slice x.mA x.modes.length x.mc, .bool x.on, .int .u32 x.code] 28) := ⟨_, rfl⟩
      have P6 : Only [] w5 w6 := by rw [hw6]; exact (Only.refl _ _).alloc _
      have X6 : Blk w6 w5.heap.size 28 x.cells := by rw [hw6]; exact Blk.new w5 _ _
      rw [← hw6] at NA
      have K6 := K5.only P6 (by simp)
      have a0 : w6.cell? ⟨w.heap.size, 0, none⟩ = some (.int .i64 m.kind) := K6.cell 0
      have a0' : w5.cell? ⟨w.heap.size, 0, none⟩ = some (.int .i64 m.kind) := K5.cell 0
      have hlt5 := K5.lt
      unfold RQ.val
      replace OWN := hide OWN
      go_wp2_with fail
      rw [← hw6]
      replace hw6 := hide hw6
      go_call NA as e w7 ⟨rfl, P7⟩
      clear NA a0 a0'
      have K7 := K6.only P7 (by simp)
      have X7 := X6.only P7 (by simp)
      have O7 : Only [] w w7 := (O5.trans P6 (by simp)).trans P7 (by simp)
      have okx7 := (okx.only P6).only P7
      have hI : (fun w' : World => Blk w' w.heap.size 28 m.cells ∧ Blk w' w5.heap.size 28 x.cells) { w7 with drawn := w7.drawn + 1 } := ⟨K7, X7⟩
      have T := OWN.out w7.drew
      unfold RQ.val at T
      go_wp2_with fail
      refine wp_region_E (fun w' : World => Blk w' w.heap.size 28 m.cells ∧ Blk w' w5.heap.size 28 x.cells) [] (by kernel_rfl) ?_
      refine wpAnyE_take 0 (v := (.int .i64 0)) rfl (by kernel_rfl) (fun _ _ _ h => h) hI (fun w' hw' => Or.inl ⟨by kernel_rfl, Or.inl (by go_simp)⟩) ?_
      refine wpAnyE_take 1 (v := (.bool true)) rfl (by kernel_rfl) (fun _ _ _ h => h) hI (fun w' hw' => Or.inl ⟨by kernel_rfl, Or.inl (by go_simp)⟩) ?_
      refine wpAnyE_take 2 (v := (.bool true)) rfl (by kernel_rfl) (fun _ _ _ h => h) hI (fun w' hw' => Or.inl ⟨by kernel_rfl, Or.inl (by go_simp)⟩) ?_
      refine wpAnyE_take 3 (v := (.bool true)) rfl (by kernel_rfl) (fun _ _ _ h => h) hI (fun w' hw' => Or.inl ⟨by kernel_rfl, Or.inl (by go_simp)⟩) ?_
      refine wpAnyE_take 4 (v := (.bool true)) rfl (by kernel_rfl) (fun _ _ _ h => h) hI (fun w' hw' => Or.inl ⟨by kernel_rfl, Or.inl (by go_simp)⟩) ?_
      refine wpAnyE_take 5 (v := (.bool true)) rfl (by kernel_rfl) (fun _ _ _ h => h) hI (fun w' hw' => Or.inl ⟨by kernel_rfl, Or.inl (by go_simp)⟩) ?_
      refine wpAnyE_take 6 (v := (.string nm)) rfl (by kernel_rfl) (fun _ _ _ h => h) hI (fun w' hw' => Or.inl ⟨by kernel_rfl, Or.inl (by go_simp)⟩) ?_
      refine wpAnyE_take 7 (v := (.string nm)) rfl (by kernel_rfl) (fun _ _ _ h => h) hI (fun w' hw' => Or.inl ⟨by kernel_rfl, Or.inl (by go_simp)⟩) ?_
      refine wpAnyE_take 8 (v := (.bool true)) rfl (by kernel_rfl) (fun _ _ _ h => h) hI (fun w' hw' => Or.inl ⟨by kernel_rfl, Or.inl (by go_simp)⟩) ?_
      refine wpAnyE_take 9 (v := (.bool true)) rfl (by kernel_rfl) (fun _ _ _ h => h) hI (fun w' hw' => Or.inl ⟨by kernel_rfl, Or.inl (by go_simp)⟩) ?_
      refine wpAnyE_take 10 (v := (.bool true)) rfl (by kernel_rfl) (fun _ _ _ h => h) hI (fun w' hw' => Or.inl ⟨by kernel_rfl, Or.inl (by go_simp)⟩) ?_
      refine wpAnyE_take 11 (v := (.agg #[.int .i64 x.kind, .string x.text, .string x.value, .string x.lang, .int .u32 x.cols, .int .u32 x.rows, .int .u32 x.width, .int .u32 x.height, .slice x.mA x.modes.length x.mc, .bool x.on, .int .u32 x.code])) rfl (by kernel_rfl) (fun _ _ _ h => h) hI (fun w' hw' => Or.inl ⟨by kernel_rfl, Or.inl (by have y0 : w'.cell? ⟨w5.heap.size, 0, none⟩ = some (.int .i64 x.kind) := hw'.2.cell 0; have y1 : w'.cell? ⟨w5.heap.size, 1, none⟩ = some (.string x.text) := hw'.2.cell 1; have y2 : w'.cell? ⟨w5.heap.size, 2, none⟩ = some (.string x.value) := hw'.2.cell 2; have y3 : w'.cell? ⟨w5.heap.size, 3, none⟩ = some (.string x.lang) := hw'.2.cell 3; have y4 : w'.cell? ⟨w5.heap.size, 4, none⟩ = some (.int .u32 x.cols) := hw'.2.cell 4; have y5 : w'.cell? ⟨w5.heap.size, 5, none⟩ = some (.int .u32 x.rows) := hw'.2.cell 5; have y6 : w'.cell? ⟨w5.heap.size, 6, none⟩ = some (.int .u32 x.width) := hw'.2.cell 6; have y7 : w'.cell? ⟨w5.heap.size, 7, none⟩ = some (.int .u32 x.height) := hw'.2.cell 7; have y8 : w'.cell? ⟨w5.heap.size, 8, none⟩ = some (.slice x.mA x.modes.length x.mc) := hw'.2.cell 8; have y9 : w'.cell? ⟨w5.heap.size, 9, none⟩ = some (.bool x.on) := hw'.2.cell 9; have y10 : w'.cell? ⟨w5.heap.size, 10, none⟩ = some (.int .u32 x.code) := hw'.2.cell 10; go_simp)⟩) ?_
      refine wpAnyE_take 12 (v := (.agg #[.int .i64 m.kind, .string m.text, .string m.value, .string m.lang, .int .u32 m.cols, .int .u32 m.rows, .int .u32 m.width, .int .u32 m.height, .slice m.mA m.modes.length m.mc, .bool m.on, .int .u32 m.code])) rfl (by kernel_rfl) (fun _ _ _ h => h) hI (fun w' hw' => Or.inl ⟨by kernel_rfl, Or.inl (by have y0 : w'.cell? ⟨w.heap.size, 0, none⟩ = some (.int .i64 m.kind) := hw'.1.cell 0; have y1 : w'.cell? ⟨w.heap.size, 1, none⟩ = some (.string m.text) := hw'.1.cell 1; have y2 : w'.cell? ⟨w.heap.size, 2, none⟩ = some (.string m.value) := hw'.1.cell 2; have y3 : w'.cell? ⟨w.heap.size, 3, none⟩ = some (.string m.lang) := hw'.1.cell 3; have y4 : w'.cell? ⟨w.heap.size, 4, none⟩ = some (.int .u32 m.cols) := hw'.1.cell 4; have y5 : w'.cell? ⟨w.heap.size, 5, none⟩ = some (.int .u32 m.rows) := hw'.1.cell 5; have y6 : w'.cell? ⟨w.heap.size, 6, none⟩ = some (.int .u32 m.width) := hw'.1.cell 6; have y7 : w'.cell? ⟨w.heap.size, 7, none⟩ = some (.int .u32 m.height) := hw'.1.cell 7; have y8 : w'.cell? ⟨w.heap.size, 8, none⟩ = some (.slice m.mA m.modes.length m.mc) := hw'.1.cell 8; have y9 : w'.cell? ⟨w.heap.size, 9, none⟩ = some (.bool m.on) := hw'.1.cell 9; have y10 : w'.cell? ⟨w.heap.size, 10, none⟩ = some (.int .u32 m.code) := hw'.1.cell 10; go_simp)⟩) ?_
      refine wpAnyE_one 13 rfl (by kernel_rfl) hI (fun K hK => ?_)
      rw [if_pos (by kernel_rfl)]
      go_simp
      go_call T as e w8 ⟨rfl, P8⟩
      clear T
      have P78 : Only [] w7 w8 := ((Only.refl _ w7).drew).trans P8 (by simp)
      have hI8 : (fun w' : World => Blk w' w.heap.size 28 m.cells ∧ Blk w' w5.heap.size 28 x.cells) w8 := ⟨K7.only P78 (by simp), X7.only P78 (by simp)⟩
      refine hK _ _ ?_
      clear hK K
      have SM := rsame_true x (ownK m k) w8 (okx7.only P78) (ownK_ok (ok.only (O7.trans P78 (by simp))) k) hsame
      unfold RQ.val at SM
      refine wpAnyE_one 14 rfl (by kernel_rfl) hI8 (fun K hK => ?_)
      rw [if_pos (by kernel_rfl)]
      go_simp
      go_call SM as e w9 ⟨rfl, P9⟩
      clear SM
      have hI9 : (fun w' : World => Blk w' w.heap.size 28 m.cells ∧ Blk w' w5.heap.size 28 x.cells) w9 := ⟨hI8.1.only P9 (by simp), hI8.2.only P9 (by simp)⟩
      refine hK _ _ ?_
      clear hK K
      refine wpAnyE_take 15 (v := (.bool true)) rfl (by kernel_rfl) (fun _ _ _ h => h) hI9 (fun w' hw' => Or.inl ⟨by kernel_rfl, Or.inl (by go_simp)⟩) ?_
      refine wpAnyE_take 16 (v := (.bool true)) rfl (by kernel_rfl) (fun _ _ _ h => h) hI9 (fun w' hw' => Or.inl ⟨by kernel_rfl, Or.inl (by go_simp)⟩) ?_
      refine wpAnyE_end (by kernel_rfl) hI9 ?_
      clear hI hI8 hI9
      (try simp only [Exit.then])
      go_wp2_with fail
      go_ret
      exact ⟨rfl, ((O7.trans P78 (by simp)).trans P9 (by simp)).below (Nat.le_refl _) (by simp)⟩
    · have hL : l = [] := by rw [← hl.out]; exact encR_bad (by rw [hE.out]; exact hz)
      have hN : nm = ⟨#[]⟩ := by rw [← hnm.out]; exact encName_bad (by rw [hE.out]; exact hz)
      subst hL
      subst hN
      have hzb : (E != 0) = true := by simpa using hz
      replace hz := hide hz
      (try dsimp only)
      go_wp2_with fail
      go_ret
      exact ⟨rfl, O4.below (Nat.le_refl _) (by simp)⟩

theorem mlen {W : World} (h : W.ShapedOpen Tryd.prog) : ∃ m, W.cell? ⟨0, 0, none⟩ = some (.int .i64 m) :=
  cell_of_shapedOpen_int (t := 3) (zero := #[.int .i64 0]) h (of_decide_eq_true (by kernel_rfl)) (by kernel_rfl) rfl (by kernel_rfl) (by kernel_rfl) Tryd.underlying3

set_option maxRecDepth 100000 in
theorem requestBack_law : LawWalkC Tryd.prog 4 Tryd.f4 := by
  intro H enc W base args ds ps hval hA hsz hshape
  rw [Tryd.params4] at hA hval hsz
  obtain ⟨m, hm⟩ := mlen hshape
  obtain ⟨v0, d0, rfl, rfl, h0⟩ := trodAll_one hA
  obtain ⟨x, rfl, ok⟩ := openR (hval 0 28 v0 rfl rfl) h0
  exact requestBack_walk x m W hm ok

set_option maxRecDepth 100000 in
theorem requestBack_row : Rows.RequestBackSaid :=
  OpenClaim.holds_of_wide 4 Tryd.f4 rfl rfl rfl rfl rfl rfl rfl ⟨rfl, rfl, rfl, rfl, rfl⟩ rfl rfl rfl rfl rfl (by kernel_rfl) Tryd.func4 (by kernel_rfl)
    (of_decide_eq_true (by kernel_rfl)) (by unfold Func.isWrapper; rw [if_neg (by decide +kernel)]; exact ⟨rfl, rfl⟩)
    (fun os started H enc _ => law_liftedC own laidOut Tryd.underlying4 4 Tryd.f4 Rows.requestBackSpec Tryd.func4 (by kernel_rfl) (by kernel_rfl) (by kernel_rfl) rfl
      (fun H ds hl => by
        have hl : ds.length = 1 := hl
        match ds, hl with
        | [d1], _ => rfl)
      (fun w => laidMetH Tryd.prog Rows.requestBackRow.laid w)
      requestBack_law os started H enc
      (ChangeSpec.witness_shaped (enc := enc) (C := Tryd.checked) (os := os) (X := fun w _ => laidMetH Tryd.prog Rows.requestBackRow.laid w) false (World.laidAll Tryd.prog os Rows.requestBackRow.laid) #[.agg #[.int .i64 0, .string ⟨#[]⟩, .string ⟨#[]⟩, .string ⟨#[]⟩, .int .u32 0, .int .u32 0, .int .u32 0, .int .u32 0, .slice none 0 0, .bool false, .int .u32 0]] 8 (World.laidAll_os _ _ _)
        (World.shaped_of_ZipB (by kernel_rfl) (by kernel_rfl)) (by kernel_rfl) (by kernel_rfl) (by kernel_rfl)
        (by rw [MakeChecks.laidMetH_plain _ _ _ (by kernel_rfl)]; exact laidMet_laidAll _ (by kernel_rfl) (by kernel_rfl))))

/-- The tied card. -/
theorem requestBack_holds : Rows.RequestBackCardSaid :=
  Claim7.holds_tied_plain_at .later [] [.data, .pinned] true (true, "45ca11d350300ed7c4b6c61326bb39e3155c021bb1d4bb7c9a0938a4c00f5bfb") false requestBack_row (fun _ h => by cases h) (by kernel_rfl) (fun _ h => by cases h) requestBack_row_tie rfl ⟨rfl, rfl⟩ (by kernel_rfl) rfl
    (fun f fn hf hfn => by
      obtain rfl : f = 4 := Option.some.inj ((show Tryd.prog.funcNamed "parlour/parlourlaw04.RequestBack" = some 4 by kernel_rfl).symm.trans hf) |>.symm
      obtain rfl : fn = Tryd.f4 := (Option.some.inj (Tryd.func4.symm.trans hfn)).symm
      exact ⟨by kernel_rfl, fun j t ht => by
        rw [Tryd.params4] at ht
        have hm : t ∈ [28] := by simpa using Array.mem_of_getElem? ht
        have hall : ([28].all fun u => !Tryd.prog.wantsStandIn u) = true := by kernel_rfl
        exact (show Tryd.prog.wantsStandIn t = false by simpa using List.all_eq_true.1 hall t hm)⟩)
    (by kernel_rfl)
#print axioms requestBack_holds
end Go.Proofs.YtmpeidliacbelaaDoor
