/- The law RequestAgain holds: for every name and bytes; no condition. -/
import Derived.Test.YtmpeidliacbelaaDoorReqN
import Derived.Test.YtmpeidliacbelaaDoorReqL
import Derived.Test.YtmpeidliacbelaaDoorReqK
import Derived.Test.YtmpeidliacbelaaDoorOpenR
import Derived.Test.YtmpeidliacbelaaDoorFrameC
import Derived.Test.YtmpeidliacbelaaDoorTie
import Derived.Test.YtmpeidliacbelaaDoorCards
namespace Go.Proofs.YtmpeidliacbelaaDoor
set_option linter.all false
open Go.ChangeShapes Go.WideShapes Go.ChangeAt Go.RowKit Go.Deep

set_option maxRecDepth 100000 in
set_option maxHeartbeats 6400000 in
theorem requestAgain_walk (s : ByteArray) (A : Option Addr) (l : List Int) (c : Nat) (i0 : Int) (w : World) (hm : w.cell? ⟨0, 0, none⟩ = some (.int .i64 i0)) (hR : Rd w A l) (hl : ∀ x ∈ l, 0 ≤ x ∧ x < 256) (hlc : l.length ≤ c) (hcm : c ≤ maxLen) (hal : ∀ a, A = some a → a.block < w.heap.size) :
    Calls Tryd.prog 3 #[.string s, .slice A l.length c] w fun e w' => e = .returned (.bool true) ∧ Below w.heap.size w w' := by
  have h0 : 0 < w.heap.size := Nat.pos_of_ne_zero (fun e => by
    have := block_lt_of_cell hm
    simp only at this
    omega)
  have AL := alive04 w i0 hm
  obtain ⟨ln, hn⟩ : ∃ ln, l.length = ln := ⟨_, rfl⟩
  rw [hn] at hlc ⊢
  replace hn := hide hn
  by_cases h1 : (100000 : Int) < (ln : Int)
  · go_enter Tryd.func3, Tryd.ntmps3
    go_wp2_with fail
    go_call AL as e w2 ⟨rfl, P2⟩
    go_wp2_with fail
    go_ret
    exact ⟨rfl, P2.below (Nat.le_refl _) (by simp)⟩
  by_cases h2 : (10000 : Int) < (s.size : Int)
  · go_enter Tryd.func3, Tryd.ntmps3
    go_wp2_with fail
    go_call AL as e w2 ⟨rfl, P2⟩
    go_wp2_with fail
    go_ret
    exact ⟨rfl, P2.below (Nat.le_refl _) (by simp)⟩
  go_enter Tryd.func3, Tryd.ntmps3
  go_wp2_with fail
  go_call AL as e w2 ⟨rfl, P2⟩
  clear AL
  have DC := rdecode_any s A l c i0 w2 (cellL P2 h0 (by simp) hm) (hR.only P2) hl (by have := hn.out; omega) (by have := hn.out; omega) hcm (fun a ha => by have := hal a ha; have := P2.size; omega)
  rw [hn.out] at DC
  go_wp2_with fail
  go_call DC as e w3 ⟨P3, x, E, rfl, okx, newx, _, hD⟩
  clear DC
  have O3 : Only [] w w3 := P2.trans P3 (by simp)
  have P4 : Only [] w3 (w3.alloc (.cells #[.int .i64 x.kind, .string x.text, .string x.value, .string x.lang, .int .u32 x.cols, .int .u32 x.rows, .int .u32 x.width, .int .u32 x.height, .slice x.mA x.modes.length x.mc, .bool x.on, .int .u32 x.code] 28)) := (Only.refl _ _).alloc _
  have X4 : Blk (w3.alloc (.cells #[.int .i64 x.kind, .string x.text, .string x.value, .string x.lang, .int .u32 x.cols, .int .u32 x.rows, .int .u32 x.width, .int .u32 x.height, .slice x.mA x.modes.length x.mc, .bool x.on, .int .u32 x.code] 28)) w3.heap.size 28 x.cells := Blk.new _ _ _
  have z4 : (w3.alloc (.cells #[.int .i64 x.kind, .string x.text, .string x.value, .string x.lang, .int .u32 x.cols, .int .u32 x.rows, .int .u32 x.width, .int .u32 x.height, .slice x.mA x.modes.length x.mc, .bool x.on, .int .u32 x.code] 28)).heap.size = w3.heap.size + 1 := by simp
  obtain ⟨w4, hw4⟩ : ∃ w4, w4 = w3.alloc (.cells #[.int .i64 x.kind, .string x.text, .string x.value, .string x.lang, .int .u32 x.cols, .int .u32 x.rows, .int .u32 x.width, .int .u32 x.height, .slice x.mA x.modes.length x.mc, .bool x.on, .int .u32 x.code] 28) := ⟨_, rfl⟩
  rw [← hw4] at P4 X4 z4
  have O4 : Only [] w w4 := O3.trans P4 (by simp)
  have okx4 := okx.only P4
  replace z4 := hide z4
  unfold RQ.val
  by_cases hE : E = 0
  · subst hE
    obtain ⟨hz, hlen, hname, hown⟩ := ragain_law2 hl hD
    obtain ⟨k, hk1, hk2, hkk, hask, hok, henc, hnk⟩ := encR_ok hz
    rw [hkk, Int.toNat_natCast] at hown
    obtain ⟨s1, s2, s3⟩ := own_small hk1 hk2 hok hown
    have EN := rencode_any x w4 okx4 (by omega) (by omega) (by omega)
    unfold EncPost at EN
    obtain ⟨l2, hl2⟩ : ∃ l2, (encR x).2 = l2 := ⟨_, rfl⟩
    have hr2 : InB l2 := by rw [← hl2, henc]; exact parts_inb okx k hk1 hk2
    rw [hl2, hn.out] at hlen
    rw [hz, hl2, hname] at EN
    unfold RQ.val at EN
    replace henc := hide henc
    replace hl2 := hide hl2
    replace hask := hide hask
    replace hnk := hide hnk
    replace hz := hide hz
    replace hlen := hide hlen
    replace hr2 := hide hr2
    replace hname := hide hname
    have OWN := fun w' => rown_any x w' k hk1 hk2 hkk
    replace OWN := hide OWN
    replace hkk := hide hkk
    go_wp2_with fail
    rw [← hw4]
    replace hw4 := hide hw4
    go_call EN as e w5 ⟨P5, v, rfl, V⟩
    clear EN
    have hvb := V.block
    obtain ⟨A1, k1, rfl, R1, q1, m1, a1⟩ := V.rd
    clear V
    have O5 : Only [] w w5 := O4.trans P5 (by simp)
    have X5 := X4.only P5 (by simp)
    have DC := rdecode_any s A1 l2 k1 i0 w5 (cellL O5 h0 (by simp) hm) R1 hr2.out (by have := hlen.out; have := hn.out; omega) q1 m1 (fun a ha => (hvb a.block (by rw [ha]; rfl)).2)
    rw [hlen.out] at DC q1 ⊢
    go_wp2_with fail
    go_call DC as e w6 ⟨P6, y, D, rfl, oky, newy, _, hD2⟩
    clear DC
    rw [← hname.out, ← hl2.out] at hD2
    obtain ⟨rfl, hsame, _⟩ := rback_law okx.nums hz.out hD2
    rw [hkk.out, Int.toNat_natCast] at hsame
    have hyx : SameR y x := SameR.trans hsame (SameR.symm hown)
    have O6 : Only [] w w6 := O5.trans P6 (by simp)
    have X6 := X5.only P6 (by simp)
    have P7 : Only [] w6 (w6.alloc (.cells #[.int .i64 y.kind, .string y.text, .string y.value, .string y.lang, .int .u32 y.cols, .int .u32 y.rows, .int .u32 y.width, .int .u32 y.height, .slice y.mA y.modes.length y.mc, .bool y.on, .int .u32 y.code] 28)) := (Only.refl _ _).alloc _
    have Y7 : Blk (w6.alloc (.cells #[.int .i64 y.kind, .string y.text, .string y.value, .string y.lang, .int .u32 y.cols, .int .u32 y.rows, .int .u32 y.width, .int .u32 y.height, .slice y.mA y.modes.length y.mc, .bool y.on, .int .u32 y.code] 28)) w6.heap.size 28 y.cells := Blk.new _ _ _
    obtain ⟨w7, hw7⟩ : ∃ w7, w7 = w6.alloc (.cells #[.int .i64 y.kind, .string y.text, .string y.value, .string y.lang, .int .u32 y.cols, .int .u32 y.rows, .int .u32 y.width, .int .u32 y.height, .slice y.mA y.modes.length y.mc, .bool y.on, .int .u32 y.code] 28) := ⟨_, rfl⟩
    rw [← hw7] at P7 Y7
    have X7 := X6.only P7 (by simp)
    have O7 : Only [] w w7 := O6.trans P7 (by simp)
    have okx7 := ((okx4.only P5).only P6).only P7
    have oky7 := oky.only P7
    have hI : (fun w' : World => Blk w' w3.heap.size 28 x.cells ∧ Blk w' w6.heap.size 28 y.cells) { w7 with drawn := w7.drawn + 1 } := ⟨X7, Y7⟩
    have T1 := rsame_true y x w7.drew (oky7.only (Only.refl _ w7).drew) (okx7.only (Only.refl _ w7).drew) hyx
    replace hsame := hide hsame
    unfold RQ.val at T1 ⊢
    go_wp2_with fail
    rw [← hw7]
    replace hw7 := hide hw7
    refine wp_region_E (fun w' : World => Blk w' w3.heap.size 28 x.cells ∧ Blk w' w6.heap.size 28 y.cells) [] (by kernel_rfl) ?_
    refine wpAnyE_take 0 (v := (.int .i64 0)) rfl (by kernel_rfl) (fun _ _ _ h => h) hI (fun w' hw' => Or.inl ⟨by kernel_rfl, Or.inl (by go_simp)⟩) ?_
    refine wpAnyE_take 1 (v := (.bool true)) rfl (by kernel_rfl) (fun _ _ _ h => h) hI (fun w' hw' => Or.inl ⟨by kernel_rfl, Or.inl (by go_simp)⟩) ?_
    refine wpAnyE_take 2 (v := (.bool true)) rfl (by kernel_rfl) (fun _ _ _ h => h) hI (fun w' hw' => Or.inl ⟨by kernel_rfl, Or.inl (by go_simp)⟩) ?_
    refine wpAnyE_take 3 (v := (.int .i64 0)) rfl (by kernel_rfl) (fun _ _ _ h => h) hI (fun w' hw' => Or.inl ⟨by kernel_rfl, Or.inl (by go_simp)⟩) ?_
    refine wpAnyE_take 4 (v := (.bool true)) rfl (by kernel_rfl) (fun _ _ _ h => h) hI (fun w' hw' => Or.inl ⟨by kernel_rfl, Or.inl (by go_simp)⟩) ?_
    refine wpAnyE_take 5 (v := (.bool true)) rfl (by kernel_rfl) (fun _ _ _ h => h) hI (fun w' hw' => Or.inl ⟨by kernel_rfl, Or.inl (by go_simp)⟩) ?_
    refine wpAnyE_take 6 (v := (.bool true)) rfl (by kernel_rfl) (fun _ _ _ h => h) hI (fun w' hw' => Or.inl ⟨by kernel_rfl, Or.inl (by go_simp)⟩) ?_
    refine wpAnyE_take 7 (v := (.string s)) rfl (by kernel_rfl) (fun _ _ _ h => h) hI (fun w' hw' => Or.inl ⟨by kernel_rfl, Or.inl (by go_simp)⟩) ?_
    refine wpAnyE_take 8 (v := (.string s)) rfl (by kernel_rfl) (fun _ _ _ h => h) hI (fun w' hw' => Or.inl ⟨by kernel_rfl, Or.inl (by go_simp)⟩) ?_
    refine wpAnyE_take 9 (v := (.bool true)) rfl (by kernel_rfl) (fun _ _ _ h => h) hI (fun w' hw' => Or.inl ⟨by kernel_rfl, Or.inl (by go_simp)⟩) ?_
    refine wpAnyE_take 10 (v := (.bool true)) rfl (by kernel_rfl) (fun _ _ _ h => h) hI (fun w' hw' => Or.inl ⟨by kernel_rfl, Or.inl (by go_simp)⟩) ?_
    refine wpAnyE_take 11 (v := (.bool true)) rfl (by kernel_rfl) (fun _ _ _ h => h) hI (fun w' hw' => Or.inl ⟨by kernel_rfl, Or.inl (by go_simp)⟩) ?_
    refine wpAnyE_take 12 (v := (.slice A1 ln k1)) rfl (by kernel_rfl) (fun _ _ _ h => h) hI (fun w' hw' => Or.inl ⟨by kernel_rfl, Or.inl (by go_simp)⟩) ?_
    refine wpAnyE_take 13 (v := (.int .i64 (ln : Int))) rfl (by kernel_rfl) (fun _ _ _ h => h) hI (fun w' hw' => Or.inl ⟨by kernel_rfl, Or.inl (by go_simp)⟩) ?_
    refine wpAnyE_take 14 (v := (.slice A ln c)) rfl (by kernel_rfl) (fun _ _ _ h => h) hI (fun w' hw' => Or.inl ⟨by kernel_rfl, Or.inl (by go_simp)⟩) ?_
    refine wpAnyE_take 15 (v := (.int .i64 (ln : Int))) rfl (by kernel_rfl) (fun _ _ _ h => h) hI (fun w' hw' => Or.inl ⟨by kernel_rfl, Or.inl (by go_simp)⟩) ?_
    refine wpAnyE_take 16 (v := (.bool true)) rfl (by kernel_rfl) (fun _ _ _ h => h) hI (fun w' hw' => Or.inl ⟨by kernel_rfl, Or.inl (by go_simp)⟩) ?_
    refine wpAnyE_take 17 (v := (.bool true)) rfl (by kernel_rfl) (fun _ _ _ h => h) hI (fun w' hw' => Or.inl ⟨by kernel_rfl, Or.inl (by go_simp)⟩) ?_
    refine wpAnyE_take 18 (v := (.bool true)) rfl (by kernel_rfl) (fun _ _ _ h => h) hI (fun w' hw' => Or.inl ⟨by kernel_rfl, Or.inl (by go_simp)⟩) ?_
    refine wpAnyE_take 19 (v := (.agg #[.int .i64 y.kind, .string y.text, .string y.value, .string y.lang, .int .u32 y.cols, .int .u32 y.rows, .int .u32 y.width, .int .u32 y.height, .slice y.mA y.modes.length y.mc, .bool y.on, .int .u32 y.code])) rfl (by kernel_rfl) (fun _ _ _ h => h) hI (fun w' hw' => Or.inl ⟨by kernel_rfl, Or.inl (by have y0 : w'.cell? ⟨w6.heap.size, 0, none⟩ = some (.int .i64 y.kind) := hw'.2.cell 0; have y1 : w'.cell? ⟨w6.heap.size, 1, none⟩ = some (.string y.text) := hw'.2.cell 1; have y2 : w'.cell? ⟨w6.heap.size, 2, none⟩ = some (.string y.value) := hw'.2.cell 2; have y3 : w'.cell? ⟨w6.heap.size, 3, none⟩ = some (.string y.lang) := hw'.2.cell 3; have y4 : w'.cell? ⟨w6.heap.size, 4, none⟩ = some (.int .u32 y.cols) := hw'.2.cell 4; have y5 : w'.cell? ⟨w6.heap.size, 5, none⟩ = some (.int .u32 y.rows) := hw'.2.cell 5; have y6 : w'.cell? ⟨w6.heap.size, 6, none⟩ = some (.int .u32 y.width) := hw'.2.cell 6; have y7 : w'.cell? ⟨w6.heap.size, 7, none⟩ = some (.int .u32 y.height) := hw'.2.cell 7; have y8 : w'.cell? ⟨w6.heap.size, 8, none⟩ = some (.slice y.mA y.modes.length y.mc) := hw'.2.cell 8; have y9 : w'.cell? ⟨w6.heap.size, 9, none⟩ = some (.bool y.on) := hw'.2.cell 9; have y10 : w'.cell? ⟨w6.heap.size, 10, none⟩ = some (.int .u32 y.code) := hw'.2.cell 10; go_simp)⟩) ?_
    refine wpAnyE_take 20 (v := (.agg #[.int .i64 x.kind, .string x.text, .string x.value, .string x.lang, .int .u32 x.cols, .int .u32 x.rows, .int .u32 x.width, .int .u32 x.height, .slice x.mA x.modes.length x.mc, .bool x.on, .int .u32 x.code])) rfl (by kernel_rfl) (fun _ _ _ h => h) hI (fun w' hw' => Or.inl ⟨by kernel_rfl, Or.inl (by have y0 : w'.cell? ⟨w3.heap.size, 0, none⟩ = some (.int .i64 x.kind) := hw'.1.cell 0; have y1 : w'.cell? ⟨w3.heap.size, 1, none⟩ = some (.string x.text) := hw'.1.cell 1; have y2 : w'.cell? ⟨w3.heap.size, 2, none⟩ = some (.string x.value) := hw'.1.cell 2; have y3 : w'.cell? ⟨w3.heap.size, 3, none⟩ = some (.string x.lang) := hw'.1.cell 3; have y4 : w'.cell? ⟨w3.heap.size, 4, none⟩ = some (.int .u32 x.cols) := hw'.1.cell 4; have y5 : w'.cell? ⟨w3.heap.size, 5, none⟩ = some (.int .u32 x.rows) := hw'.1.cell 5; have y6 : w'.cell? ⟨w3.heap.size, 6, none⟩ = some (.int .u32 x.width) := hw'.1.cell 6; have y7 : w'.cell? ⟨w3.heap.size, 7, none⟩ = some (.int .u32 x.height) := hw'.1.cell 7; have y8 : w'.cell? ⟨w3.heap.size, 8, none⟩ = some (.slice x.mA x.modes.length x.mc) := hw'.1.cell 8; have y9 : w'.cell? ⟨w3.heap.size, 9, none⟩ = some (.bool x.on) := hw'.1.cell 9; have y10 : w'.cell? ⟨w3.heap.size, 10, none⟩ = some (.int .u32 x.code) := hw'.1.cell 10; go_simp)⟩) ?_
    refine wpAnyE_one 21 rfl (by kernel_rfl) hI (fun K hK => ?_)
    rw [if_pos (by kernel_rfl)]
    go_simp
    go_call T1 as e w8 ⟨rfl, P8⟩
    clear T1
    have P78 : Only [] w7 w8 := ((Only.refl _ w7).drew).trans P8 (by simp)
    have hI8 : (fun w' : World => Blk w' w3.heap.size 28 x.cells ∧ Blk w' w6.heap.size 28 y.cells) w8 := ⟨X7.only P78 (by simp), Y7.only P78 (by simp)⟩
    refine hK _ _ ?_
    clear hK K
    refine wpAnyE_take 22 (v := (.bool true)) rfl (by kernel_rfl) (fun _ _ _ h => h) hI8 (fun w' hw' => Or.inl ⟨by kernel_rfl, Or.inl (by go_simp)⟩) ?_
    refine wpAnyE_take 23 (v := (.bool true)) rfl (by kernel_rfl) (fun _ _ _ h => h) hI8 (fun w' hw' => Or.inl ⟨by kernel_rfl, Or.inl (by go_simp)⟩) ?_
    refine wpAnyE_take 24 (v := (.agg #[.int .i64 x.kind, .string x.text, .string x.value, .string x.lang, .int .u32 x.cols, .int .u32 x.rows, .int .u32 x.width, .int .u32 x.height, .slice x.mA x.modes.length x.mc, .bool x.on, .int .u32 x.code])) rfl (by kernel_rfl) (fun _ _ _ h => h) hI8 (fun w' hw' => Or.inl ⟨by kernel_rfl, Or.inl (by have y0 : w'.cell? ⟨w3.heap.size, 0, none⟩ = some (.int .i64 x.kind) := hw'.1.cell 0; have y1 : w'.cell? ⟨w3.heap.size, 1, none⟩ = some (.string x.text) := hw'.1.cell 1; have y2 : w'.cell? ⟨w3.heap.size, 2, none⟩ = some (.string x.value) := hw'.1.cell 2; have y3 : w'.cell? ⟨w3.heap.size, 3, none⟩ = some (.string x.lang) := hw'.1.cell 3; have y4 : w'.cell? ⟨w3.heap.size, 4, none⟩ = some (.int .u32 x.cols) := hw'.1.cell 4; have y5 : w'.cell? ⟨w3.heap.size, 5, none⟩ = some (.int .u32 x.rows) := hw'.1.cell 5; have y6 : w'.cell? ⟨w3.heap.size, 6, none⟩ = some (.int .u32 x.width) := hw'.1.cell 6; have y7 : w'.cell? ⟨w3.heap.size, 7, none⟩ = some (.int .u32 x.height) := hw'.1.cell 7; have y8 : w'.cell? ⟨w3.heap.size, 8, none⟩ = some (.slice x.mA x.modes.length x.mc) := hw'.1.cell 8; have y9 : w'.cell? ⟨w3.heap.size, 9, none⟩ = some (.bool x.on) := hw'.1.cell 9; have y10 : w'.cell? ⟨w3.heap.size, 10, none⟩ = some (.int .u32 x.code) := hw'.1.cell 10; go_simp)⟩) ?_
    refine wpAnyE_take 25 (v := (.agg #[.int .i64 x.kind, .string x.text, .string x.value, .string x.lang, .int .u32 x.cols, .int .u32 x.rows, .int .u32 x.width, .int .u32 x.height, .slice x.mA x.modes.length x.mc, .bool x.on, .int .u32 x.code])) rfl (by kernel_rfl) (fun _ _ _ h => h) hI8 (fun w' hw' => Or.inl ⟨by kernel_rfl, Or.inl (by have y0 : w'.cell? ⟨w3.heap.size, 0, none⟩ = some (.int .i64 x.kind) := hw'.1.cell 0; have y1 : w'.cell? ⟨w3.heap.size, 1, none⟩ = some (.string x.text) := hw'.1.cell 1; have y2 : w'.cell? ⟨w3.heap.size, 2, none⟩ = some (.string x.value) := hw'.1.cell 2; have y3 : w'.cell? ⟨w3.heap.size, 3, none⟩ = some (.string x.lang) := hw'.1.cell 3; have y4 : w'.cell? ⟨w3.heap.size, 4, none⟩ = some (.int .u32 x.cols) := hw'.1.cell 4; have y5 : w'.cell? ⟨w3.heap.size, 5, none⟩ = some (.int .u32 x.rows) := hw'.1.cell 5; have y6 : w'.cell? ⟨w3.heap.size, 6, none⟩ = some (.int .u32 x.width) := hw'.1.cell 6; have y7 : w'.cell? ⟨w3.heap.size, 7, none⟩ = some (.int .u32 x.height) := hw'.1.cell 7; have y8 : w'.cell? ⟨w3.heap.size, 8, none⟩ = some (.slice x.mA x.modes.length x.mc) := hw'.1.cell 8; have y9 : w'.cell? ⟨w3.heap.size, 9, none⟩ = some (.bool x.on) := hw'.1.cell 9; have y10 : w'.cell? ⟨w3.heap.size, 10, none⟩ = some (.int .u32 x.code) := hw'.1.cell 10; go_simp)⟩) ?_
    have T := OWN.out w8
    unfold RQ.val at T
    refine wpAnyE_one 26 rfl (by kernel_rfl) hI8 (fun K hK => ?_)
    rw [if_pos (by kernel_rfl)]
    go_simp
    go_call T as e w9 ⟨rfl, P9⟩
    clear T
    have P79 : Only [] w7 w9 := P78.trans P9 (by simp)
    have hI9 : (fun w' : World => Blk w' w3.heap.size 28 x.cells ∧ Blk w' w6.heap.size 28 y.cells) w9 := ⟨X7.only P79 (by simp), Y7.only P79 (by simp)⟩
    refine hK _ _ ?_
    clear hK K
    have SM := rsame_true x (ownK x k) w9 (okx7.only P79) (ownK_ok (okx7.only P79) k) hown
    unfold RQ.val at SM
    refine wpAnyE_one 27 rfl (by kernel_rfl) hI9 (fun K hK => ?_)
    rw [if_pos (by kernel_rfl)]
    go_simp
    go_call SM as e w10 ⟨rfl, P10⟩
    clear SM
    have hI10 : (fun w' : World => Blk w' w3.heap.size 28 x.cells ∧ Blk w' w6.heap.size 28 y.cells) w10 := ⟨hI9.1.only P10 (by simp), hI9.2.only P10 (by simp)⟩
    refine hK _ _ ?_
    clear hK K
    refine wpAnyE_take 28 (v := (.bool true)) rfl (by kernel_rfl) (fun _ _ _ h => h) hI10 (fun w' hw' => Or.inl ⟨by kernel_rfl, Or.inl (by go_simp)⟩) ?_
    refine wpAnyE_take 29 (v := (.bool true)) rfl (by kernel_rfl) (fun _ _ _ h => h) hI10 (fun w' hw' => Or.inl ⟨by kernel_rfl, Or.inl (by go_simp)⟩) ?_
    refine wpAnyE_end (by kernel_rfl) hI10 ?_
    clear hI hI8 hI9 hI10
    (try simp only [Exit.then])
    go_wp2_with fail
    go_ret
    exact ⟨rfl, ((O7.trans P79 (by simp)).trans P10 (by simp)).below (Nat.le_refl _) (by simp)⟩
  · have hzr := decR_zero hD hE
    subst hzr
    have hzb : (E != 0) = true := by simpa using hE
    have SM := rsame_true zeroR zeroR w4 okx4 (zeroR_ok _) (SameR.refl _)
    unfold RQ.val at SM
    clear hD
    replace hE := hide hE
    unfold zeroR at SM X4 hw4 ⊢
    simp only [List.length_nil] at SM hw4
    go_wp2_with fail
    rw [← hw4]
    replace hw4 := hide hw4
    go_call SM as e w5 ⟨rfl, P5⟩
    go_wp2_with fail
    go_ret
    exact ⟨rfl, (O4.trans P5 (by simp)).below (Nat.le_refl _) (by simp)⟩

theorem mlen {W : World} (h : W.ShapedOpen Tryd.prog) : ∃ m, W.cell? ⟨0, 0, none⟩ = some (.int .i64 m) :=
  cell_of_shapedOpen_int (t := 3) (zero := #[.int .i64 0]) h (of_decide_eq_true (by kernel_rfl)) (by kernel_rfl) rfl (by kernel_rfl) (by kernel_rfl) Tryd.underlying3

set_option maxRecDepth 100000 in
theorem requestAgain_law : LawWalkC Tryd.prog 3 Tryd.f3 := by
  intro H enc W base args ds ps hval hA hsz hshape
  rw [Tryd.params3] at hA hval hsz
  obtain ⟨m, hm⟩ := mlen hshape
  obtain ⟨v0, v1, d0, d1, p0, p1, rfl, rfl, rfl, h0, h1⟩ := trodAll_two hA
  obtain ⟨s, rfl, rfl, rfl, _⟩ := Go.ChangeMaps.open_string Tryd.underlying9 (hval 0 9 v0 rfl rfl) h0
  obtain ⟨A, l, c, rfl, hlc, hcm, hR, hz, hal⟩ := open_sl Tryd.underlying22 Tryd.underlying5 (by kernel_rfl) (hval 1 22 v1 rfl rfl) h1
  exact requestAgain_walk s A l c m W hm hR (fun x hx => by have := wf_u8 (hz x hx); omega) hlc hcm hal

set_option maxRecDepth 100000 in
theorem requestAgain_row : Rows.RequestAgainSaid :=
  OpenClaim.holds_of_wide 3 Tryd.f3 rfl rfl rfl rfl rfl rfl rfl ⟨rfl, rfl, rfl, rfl, rfl⟩ rfl rfl rfl rfl rfl (by kernel_rfl) Tryd.func3 (by kernel_rfl)
    (of_decide_eq_true (by kernel_rfl)) (by unfold Func.isWrapper; rw [if_neg (by decide +kernel)]; exact ⟨rfl, rfl⟩)
    (fun os started H enc _ => law_liftedC own laidOut Tryd.underlying4 3 Tryd.f3 Rows.requestAgainSpec Tryd.func3 (by kernel_rfl) (by kernel_rfl) (by kernel_rfl) rfl
      (fun H ds hl => by
        have hl : ds.length = 2 := hl
        match ds, hl with
        | [d1, d2], _ => rfl)
      (fun w => laidMetH Tryd.prog Rows.requestAgainRow.laid w)
      requestAgain_law os started H enc
      (ChangeSpec.witness_shaped (enc := enc) (C := Tryd.checked) (os := os) (X := fun w _ => laidMetH Tryd.prog Rows.requestAgainRow.laid w) false (World.laidAll Tryd.prog os Rows.requestAgainRow.laid) #[.string ⟨#[]⟩, .slice none 0 0] 8 (World.laidAll_os _ _ _)
        (World.shaped_of_ZipB (by kernel_rfl) (by kernel_rfl)) (by kernel_rfl) (by kernel_rfl) (by kernel_rfl)
        (by rw [MakeChecks.laidMetH_plain _ _ _ (by kernel_rfl)]; exact laidMet_laidAll _ (by kernel_rfl) (by kernel_rfl))))

/-- The tied card. -/
theorem requestAgain_holds : Rows.RequestAgainCardSaid :=
  Claim7.holds_tied_plain_at .later [] [.data, .pinned] true (true, "45ca11d350300ed7c4b6c61326bb39e3155c021bb1d4bb7c9a0938a4c00f5bfb") false requestAgain_row (fun _ h => by cases h) (by kernel_rfl) (fun _ h => by cases h) requestAgain_row_tie rfl ⟨rfl, rfl⟩ (by kernel_rfl) rfl
    (fun f fn hf hfn => by
      obtain rfl : f = 3 := Option.some.inj ((show Tryd.prog.funcNamed "parlour/parlourlaw04.RequestAgain" = some 3 by kernel_rfl).symm.trans hf) |>.symm
      obtain rfl : fn = Tryd.f3 := (Option.some.inj (Tryd.func3.symm.trans hfn)).symm
      exact ⟨by kernel_rfl, fun j t ht => by
        rw [Tryd.params3] at ht
        have hm : t ∈ [9, 22] := by simpa using Array.mem_of_getElem? ht
        have hall : ([9, 22].all fun u => !Tryd.prog.wantsStandIn u) = true := by kernel_rfl
        exact (show Tryd.prog.wantsStandIn t = false by simpa using List.all_eq_true.1 hall t hm)⟩)
    (by kernel_rfl)
#print axioms requestAgain_holds
end Go.Proofs.YtmpeidliacbelaaDoor
