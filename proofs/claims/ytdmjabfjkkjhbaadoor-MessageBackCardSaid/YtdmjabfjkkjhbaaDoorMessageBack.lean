/- The law MessageBack holds: for every message; no condition. -/
import Derived.Test.YtdmjabfjkkjhbaaDoorMsgM
import Derived.Test.YtdmjabfjkkjhbaaDoorMsgKD
import Derived.Test.YtdmjabfjkkjhbaaDoorHeldB
import Derived.Test.YtdmjabfjkkjhbaaDoorOpenM
import Derived.Test.YtdmjabfjkkjhbaaDoorFrameC
import Derived.Test.YtdmjabfjkkjhbaaDoorHeld
import Derived.Test.YtdmjabfjkkjhbaaDoorTie
import Derived.Test.YtdmjabfjkkjhbaaDoorCards
namespace Go.Proofs.YtdmjabfjkkjhbaaDoor
set_option linter.all false
open Go.ChangeShapes Go.WideShapes Go.ChangeAt Go.RowKit Go.Deep

set_option maxRecDepth 100000 in
set_option maxHeartbeats 6400000 in
theorem messageBack_walk (m : MD) (i0 : Int) (w : World) (hm : w.cell? ⟨0, 0, none⟩ = some (.int .i64 i0)) (ok : m.ok w) :
    Calls Tryd.prog 8 #[m.val] w fun e w' => e = .returned (.bool true) ∧ Below w.heap.size w w' := by
  obtain ⟨w1, hw1⟩ : ∃ w1, w1 = w.alloc (.cells #[.int .i64 m.kind, .int .u32 m.chan, .int .u32 m.sender, .int .u32 m.window, .int .u32 m.packet, .int .u32 m.code, .string m.name, .string m.lang, .bool m.want, .slice m.dA m.data.length m.dc] 47) := ⟨_, rfl⟩
  have P1 : Only [] w w1 := by rw [hw1]; exact (Only.refl _ _).alloc _
  have K1 : Blk w1 w.heap.size 47 m.cells := by rw [hw1]; exact Blk.new w _ _
  have h0 : 0 < w.heap.size := Nat.pos_of_ne_zero (fun e => by
    have := block_lt_of_cell hm
    simp only at this
    omega)
  have AL := alive03 w1 i0 (cellL P1 h0 (by simp) hm)
  unfold MD.val
  go_enter Tryd.func8, Tryd.ntmps8
  go_wp2_with fail
  rw [← hw1]
  replace hw1 := hide hw1
  go_call AL as e w2 ⟨rfl, P2⟩
  clear AL
  have O2 : Only [] w w2 := P1.trans P2 (by simp)
  have K2 := K1.only P2 (by simp)
  have GR := mgreat_any m w2
  unfold MD.val at GR
  have a0 : w2.cell? ⟨w.heap.size, 0, none⟩ = some (.int .i64 m.kind) := K2.cell 0
  have a1 : w2.cell? ⟨w.heap.size, 1, none⟩ = some (.int .u32 m.chan) := K2.cell 1
  have a2 : w2.cell? ⟨w.heap.size, 2, none⟩ = some (.int .u32 m.sender) := K2.cell 2
  have a3 : w2.cell? ⟨w.heap.size, 3, none⟩ = some (.int .u32 m.window) := K2.cell 3
  have a4 : w2.cell? ⟨w.heap.size, 4, none⟩ = some (.int .u32 m.packet) := K2.cell 4
  have a5 : w2.cell? ⟨w.heap.size, 5, none⟩ = some (.int .u32 m.code) := K2.cell 5
  have a6 : w2.cell? ⟨w.heap.size, 6, none⟩ = some (.string m.name) := K2.cell 6
  have a7 : w2.cell? ⟨w.heap.size, 7, none⟩ = some (.string m.lang) := K2.cell 7
  have a8 : w2.cell? ⟨w.heap.size, 8, none⟩ = some (.bool m.want) := K2.cell 8
  have a9 : w2.cell? ⟨w.heap.size, 9, none⟩ = some (.slice m.dA m.data.length m.dc) := K2.cell 9
  go_wp2_with fail
  go_call GR as e w3 ⟨P3, b, rfl, hb⟩
  clear GR
  clear a0 a1 a2 a3 a4 a5 a6 a7 a8 a9
  have O3 : Only [] w w3 := O2.trans P3 (by simp)
  have K3 := K2.only P3 (by simp)
  cases b with
  | true =>
    clear hb
    go_wp2_with fail
    go_ret
    exact ⟨rfl, O3.below (Nat.le_refl _) (by simp)⟩
  | false =>
    obtain ⟨g1, g2, g3⟩ := hb rfl
    have EN := encode_any m w3 (ok.only O3) (by omega) (by omega)
    obtain ⟨E, hE⟩ : ∃ E, (encP m).1 = E := ⟨_, rfl⟩
    obtain ⟨l, hl⟩ : ∃ l, (encP m).2 = l := ⟨_, rfl⟩
    have hp : encP m = (E, l) := by rw [← hE, ← hl]
    rw [hp] at EN
    unfold MD.val at EN
    have a0 : w3.cell? ⟨w.heap.size, 0, none⟩ = some (.int .i64 m.kind) := K3.cell 0
    have a1 : w3.cell? ⟨w.heap.size, 1, none⟩ = some (.int .u32 m.chan) := K3.cell 1
    have a2 : w3.cell? ⟨w.heap.size, 2, none⟩ = some (.int .u32 m.sender) := K3.cell 2
    have a3 : w3.cell? ⟨w.heap.size, 3, none⟩ = some (.int .u32 m.window) := K3.cell 3
    have a4 : w3.cell? ⟨w.heap.size, 4, none⟩ = some (.int .u32 m.packet) := K3.cell 4
    have a5 : w3.cell? ⟨w.heap.size, 5, none⟩ = some (.int .u32 m.code) := K3.cell 5
    have a6 : w3.cell? ⟨w.heap.size, 6, none⟩ = some (.string m.name) := K3.cell 6
    have a7 : w3.cell? ⟨w.heap.size, 7, none⟩ = some (.string m.lang) := K3.cell 7
    have a8 : w3.cell? ⟨w.heap.size, 8, none⟩ = some (.bool m.want) := K3.cell 8
    have a9 : w3.cell? ⟨w.heap.size, 9, none⟩ = some (.slice m.dA m.data.length m.dc) := K3.cell 9
    replace hE := hide hE
    replace hl := hide hl
    replace hp := hide hp
    go_wp2_with fail
    go_call EN as e w4 ⟨P4, v, rfl, V⟩
    clear EN
    clear a0 a1 a2 a3 a4 a5 a6 a7 a8 a9
    have O4 : Only [] w w4 := O3.trans P4 (by simp)
    have K4 := K3.only P4 (by simp)
    have hvb := V.block
    obtain ⟨A1, k1, rfl, R1, q1, m1, a1⟩ := V.rd
    clear V
    by_cases hz : E = 0
    · subst hz
      have hz := hE.out
      obtain ⟨hlen, t, ht⟩ := enc_len hz
      rw [hl.out] at hlen ht
      subst ht
      have hrange : InB (m.kind :: t) := by
        rw [← hl.out]
        exact enc_inb ok
      obtain ⟨ln, hn⟩ : ∃ ln, (m.kind :: t).length = ln := ⟨_, rfl⟩
      have hn1 : 1 ≤ ln := by rw [← hn]; simp
      have m4 : w4.cell? ⟨0, 0, none⟩ = some (.int .i64 i0) := cellL O4 h0 (by simp) hm
      have DC := decode_is A1 (m.kind :: t) k1 i0 w4 m4 R1 hrange (by omega) q1 m1 (fun a ha => (hvb a.block (by rw [ha]; rfl)).2)
      obtain ⟨b0, off, y, rfl, hb0, hy, cx⟩ := RdG.at (mk := .int .u8) R1 0 (by simp)
      simp at hy
      subst hy
      rw [Nat.add_zero] at cx
      rw [hn] at DC hlen q1 ⊢
      replace hn := hide hn
      replace hrange := hide hrange
      go_wp2_with fail
      go_call DC as e w5 ⟨P5, x, D, rfl, okx, newx, hD⟩
      clear DC
      rw [← hl.out] at hD
      obtain ⟨rfl, hsame, _, _⟩ := mback_law ok.nums hz hD
      have O5 : Only [] w w5 := O4.trans P5 (by simp)
      have K5 := K4.only P5 (by simp)
      have cx5 : w5.cell? ⟨b0, off, none⟩ = some (.int .u8 m.kind) := cellL P5 hb0 (by simp) cx
      obtain ⟨w6, hw6⟩ : ∃ w6, w6 = w5.alloc (.cells #[.int .i64 x.kind, .int .u32 x.chan, .int .u32 x.sender, .int .u32 x.window, .int .u32 x.packet, .int .u32 x.code, .string x.name, .string x.lang, .bool x.want, .slice x.dA x.data.length x.dc] 47) := ⟨_, rfl⟩
      have P6 : Only [] w5 w6 := by rw [hw6]; exact (Only.refl _ _).alloc _
      have X6 : Blk w6 w5.heap.size 47 x.cells := by rw [hw6]; exact Blk.new w5 _ _
      have K6 := K5.only P6 (by simp)
      have cx6 : w6.cell? ⟨b0, off, none⟩ = some (.int .u8 m.kind) := cellL P6 (by have := P5.size; omega) (by simp) cx5
      have O6 : Only [] w w6 := O5.trans P6 (by simp)
      have okx6 := okx.only P6
      have ok6 := ok.only O6
      have hI : (fun w' : World => Blk w' w.heap.size 47 m.cells ∧ Blk w' w5.heap.size 47 x.cells ∧ w'.cell? ⟨b0, off, none⟩ = some (.int .u8 m.kind)) { w6 with drawn := w6.drawn + 1 } := ⟨K6, X6, cx6⟩
      have OWN := mown_any m w6.drew
      unfold MD.val at OWN
      have i1 : (0 : Int) < (ln : Int) := by omega
      have i2 : (ln : Int) ≤ 33792 := by omega
      have hk8 := hrange.out m.kind (by simp)
      have hwr : IntKind.i64.wrap m.kind = m.kind := IntWalk.i64_in _ (by omega)
      unfold MD.val
      go_wp2_with fail
      rw [← hw6]
      replace hw6 := hide hw6
      refine wp_region_E (fun w' : World => Blk w' w.heap.size 47 m.cells ∧ Blk w' w5.heap.size 47 x.cells ∧ w'.cell? ⟨b0, off, none⟩ = some (.int .u8 m.kind)) [] (by kernel_rfl) ?_
      refine wpAnyE_take 0 (v := (.int .i64 0)) rfl (by kernel_rfl) (fun _ _ _ h => h) hI (fun w' hw' => Or.inl ⟨by kernel_rfl, Or.inl (by go_simp; (try omega))⟩) ?_
      refine wpAnyE_take 1 (v := (.bool true)) rfl (by kernel_rfl) (fun _ _ _ h => h) hI (fun w' hw' => Or.inl ⟨by kernel_rfl, Or.inl (by go_simp; (try omega))⟩) ?_
      refine wpAnyE_take 2 (v := (.bool true)) rfl (by kernel_rfl) (fun _ _ _ h => h) hI (fun w' hw' => Or.inl ⟨by kernel_rfl, Or.inl (by go_simp; (try omega))⟩) ?_
      refine wpAnyE_take 3 (v := (.slice (some ⟨b0, off, none⟩) ln k1)) rfl (by kernel_rfl) (fun _ _ _ h => h) hI (fun w' hw' => Or.inl ⟨by kernel_rfl, Or.inl (by go_simp; (try omega))⟩) ?_
      refine wpAnyE_take 4 (v := (.int .i64 (ln : Int))) rfl (by kernel_rfl) (fun _ _ _ h => h) hI (fun w' hw' => Or.inl ⟨by kernel_rfl, Or.inl (by go_simp; (try omega))⟩) ?_
      refine wpAnyE_take 5 (v := (.bool true)) rfl (by kernel_rfl) (fun _ _ _ h => h) hI (fun w' hw' => Or.inl ⟨by kernel_rfl, Or.inl (by go_simp; (try omega))⟩) ?_
      refine wpAnyE_take 6 (v := (.bool true)) rfl (by kernel_rfl) (fun _ _ _ h => h) hI (fun w' hw' => Or.inl ⟨by kernel_rfl, Or.inl (by go_simp; (try omega))⟩) ?_
      refine wpAnyE_take 7 (v := (.bool true)) rfl (by kernel_rfl) (fun _ _ _ h => h) hI (fun w' hw' => Or.inl ⟨by kernel_rfl, Or.inl (by go_simp; (try omega))⟩) ?_
      refine wpAnyE_take 8 (v := (.slice (some ⟨b0, off, none⟩) ln k1)) rfl (by kernel_rfl) (fun _ _ _ h => h) hI (fun w' hw' => Or.inl ⟨by kernel_rfl, Or.inl (by go_simp; (try omega))⟩) ?_
      refine wpAnyE_take 9 (v := (.int .i64 (ln : Int))) rfl (by kernel_rfl) (fun _ _ _ h => h) hI (fun w' hw' => Or.inl ⟨by kernel_rfl, Or.inl (by go_simp; (try omega))⟩) ?_
      refine wpAnyE_take 10 (v := (.bool true)) rfl (by kernel_rfl) (fun _ _ _ h => h) hI (fun w' hw' => Or.inl ⟨by kernel_rfl, Or.inl (by go_simp; (try omega))⟩) ?_
      refine wpAnyE_take 11 (v := (.bool true)) rfl (by kernel_rfl) (fun _ _ _ h => h) hI (fun w' hw' => Or.inl ⟨by kernel_rfl, Or.inl (by go_simp; (try omega))⟩) ?_
      refine wpAnyE_take 12 (v := (.bool true)) rfl (by kernel_rfl) (fun _ _ _ h => h) hI (fun w' hw' => Or.inl ⟨by kernel_rfl, Or.inl (by go_simp; (try omega))⟩) ?_
      refine wpAnyE_take 13 (v := (.slice (some ⟨b0, off, none⟩) ln k1)) rfl (by kernel_rfl) (fun _ _ _ h => h) hI (fun w' hw' => Or.inl ⟨by kernel_rfl, Or.inl (by go_simp; (try omega))⟩) ?_
      refine wpAnyE_take 14 (v := (.pointer (some ⟨b0, off, none⟩))) rfl (by kernel_rfl) (fun _ _ _ h => h) hI (fun w' hw' => Or.inl ⟨by kernel_rfl, Or.inl (by go_simp; (try omega))⟩) ?_
      refine wpAnyE_take 15 (v := (.int .u8 m.kind)) rfl (by kernel_rfl) (fun _ _ _ h => h) hI (fun w' hw' => Or.inl ⟨by kernel_rfl, Or.inl (by have y0 := hw'.2.2; go_simp; (try omega))⟩) ?_
      refine wpAnyE_take 16 (v := (.int .i64 m.kind)) rfl (by kernel_rfl) (fun _ _ _ h => h) hI (fun w' hw' => Or.inl ⟨by kernel_rfl, Or.inl (by go_simp; (try omega))⟩) ?_
      refine wpAnyE_take 17 (v := (.pointer (some ⟨w.heap.size, 0, none⟩))) rfl (by kernel_rfl) (fun _ _ _ h => h) hI (fun w' hw' => Or.inl ⟨by kernel_rfl, Or.inl (by go_simp; (try omega))⟩) ?_
      refine wpAnyE_take 18 (v := (.int .i64 m.kind)) rfl (by kernel_rfl) (fun _ _ _ h => h) hI (fun w' hw' => Or.inl ⟨by kernel_rfl, Or.inl (by have y0 : w'.cell? ⟨w.heap.size, 0, none⟩ = some (.int .i64 m.kind) := hw'.1.cell 0; go_simp; (try omega))⟩) ?_
      refine wpAnyE_take 19 (v := (.bool true)) rfl (by kernel_rfl) (fun _ _ _ h => h) hI (fun w' hw' => Or.inl ⟨by kernel_rfl, Or.inl (by go_simp; (try omega))⟩) ?_
      refine wpAnyE_take 20 (v := (.bool true)) rfl (by kernel_rfl) (fun _ _ _ h => h) hI (fun w' hw' => Or.inl ⟨by kernel_rfl, Or.inl (by go_simp; (try omega))⟩) ?_
      refine wpAnyE_take 21 (v := (.bool true)) rfl (by kernel_rfl) (fun _ _ _ h => h) hI (fun w' hw' => Or.inl ⟨by kernel_rfl, Or.inl (by go_simp; (try omega))⟩) ?_
      refine wpAnyE_take 22 (v := (.agg #[.int .i64 x.kind, .int .u32 x.chan, .int .u32 x.sender, .int .u32 x.window, .int .u32 x.packet, .int .u32 x.code, .string x.name, .string x.lang, .bool x.want, .slice x.dA x.data.length x.dc])) rfl (by kernel_rfl) (fun _ _ _ h => h) hI (fun w' hw' => Or.inl ⟨by kernel_rfl, Or.inl (by have y0 : w'.cell? ⟨w5.heap.size, 0, none⟩ = some (.int .i64 x.kind) := hw'.2.1.cell 0; have y1 : w'.cell? ⟨w5.heap.size, 1, none⟩ = some (.int .u32 x.chan) := hw'.2.1.cell 1; have y2 : w'.cell? ⟨w5.heap.size, 2, none⟩ = some (.int .u32 x.sender) := hw'.2.1.cell 2; have y3 : w'.cell? ⟨w5.heap.size, 3, none⟩ = some (.int .u32 x.window) := hw'.2.1.cell 3; have y4 : w'.cell? ⟨w5.heap.size, 4, none⟩ = some (.int .u32 x.packet) := hw'.2.1.cell 4; have y5 : w'.cell? ⟨w5.heap.size, 5, none⟩ = some (.int .u32 x.code) := hw'.2.1.cell 5; have y6 : w'.cell? ⟨w5.heap.size, 6, none⟩ = some (.string x.name) := hw'.2.1.cell 6; have y7 : w'.cell? ⟨w5.heap.size, 7, none⟩ = some (.string x.lang) := hw'.2.1.cell 7; have y8 : w'.cell? ⟨w5.heap.size, 8, none⟩ = some (.bool x.want) := hw'.2.1.cell 8; have y9 : w'.cell? ⟨w5.heap.size, 9, none⟩ = some (.slice x.dA x.data.length x.dc) := hw'.2.1.cell 9; go_simp; (try omega))⟩) ?_
      refine wpAnyE_take 23 (v := (.agg #[.int .i64 m.kind, .int .u32 m.chan, .int .u32 m.sender, .int .u32 m.window, .int .u32 m.packet, .int .u32 m.code, .string m.name, .string m.lang, .bool m.want, .slice m.dA m.data.length m.dc])) rfl (by kernel_rfl) (fun _ _ _ h => h) hI (fun w' hw' => Or.inl ⟨by kernel_rfl, Or.inl (by have y0 : w'.cell? ⟨w.heap.size, 0, none⟩ = some (.int .i64 m.kind) := hw'.1.cell 0; have y1 : w'.cell? ⟨w.heap.size, 1, none⟩ = some (.int .u32 m.chan) := hw'.1.cell 1; have y2 : w'.cell? ⟨w.heap.size, 2, none⟩ = some (.int .u32 m.sender) := hw'.1.cell 2; have y3 : w'.cell? ⟨w.heap.size, 3, none⟩ = some (.int .u32 m.window) := hw'.1.cell 3; have y4 : w'.cell? ⟨w.heap.size, 4, none⟩ = some (.int .u32 m.packet) := hw'.1.cell 4; have y5 : w'.cell? ⟨w.heap.size, 5, none⟩ = some (.int .u32 m.code) := hw'.1.cell 5; have y6 : w'.cell? ⟨w.heap.size, 6, none⟩ = some (.string m.name) := hw'.1.cell 6; have y7 : w'.cell? ⟨w.heap.size, 7, none⟩ = some (.string m.lang) := hw'.1.cell 7; have y8 : w'.cell? ⟨w.heap.size, 8, none⟩ = some (.bool m.want) := hw'.1.cell 8; have y9 : w'.cell? ⟨w.heap.size, 9, none⟩ = some (.slice m.dA m.data.length m.dc) := hw'.1.cell 9; go_simp; (try omega))⟩) ?_
      refine wpAnyE_one 24 rfl (by kernel_rfl) hI (fun K hK => ?_)
      rw [if_pos (by kernel_rfl)]
      go_simp
      go_call OWN as e w7 ⟨rfl, P7⟩
      have P67 : Only [] w6 w7 := ((Only.refl _ w6).drew).trans P7 (by simp)
      have hI7 : (fun w' : World => Blk w' w.heap.size 47 m.cells ∧ Blk w' w5.heap.size 47 x.cells ∧ w'.cell? ⟨b0, off, none⟩ = some (.int .u8 m.kind)) w7 := ⟨K6.only P67 (by simp), X6.only P67 (by simp), cellL P67 (by have := P5.size; have := P6.size; omega) (by simp) cx6⟩
      refine hK _ _ ?_
      clear hK K
      have SM := msame_any x (ownM m) w7 (okx6.only P67) (own_ok (ok6.only P67)) hsame
      unfold MD.val at SM
      refine wpAnyE_one 25 rfl (by kernel_rfl) hI7 (fun K hK => ?_)
      rw [if_pos (by kernel_rfl)]
      go_simp
      go_call SM as e w8 ⟨rfl, P8⟩
      have hI8 : (fun w' : World => Blk w' w.heap.size 47 m.cells ∧ Blk w' w5.heap.size 47 x.cells ∧ w'.cell? ⟨b0, off, none⟩ = some (.int .u8 m.kind)) w8 := ⟨hI7.1.only P8 (by simp), hI7.2.1.only P8 (by simp), cellL P8 (by have := P67.size; have := P5.size; have := P6.size; omega) (by simp) hI7.2.2⟩
      refine hK _ _ ?_
      clear hK K
      refine wpAnyE_take 26 (v := (.bool true)) rfl (by kernel_rfl) (fun _ _ _ h => h) hI8 (fun w' hw' => Or.inl ⟨by kernel_rfl, Or.inl (by go_simp)⟩) ?_
      refine wpAnyE_take 27 (v := (.bool true)) rfl (by kernel_rfl) (fun _ _ _ h => h) hI8 (fun w' hw' => Or.inl ⟨by kernel_rfl, Or.inl (by go_simp)⟩) ?_
      refine wpAnyE_end (by kernel_rfl) hI8 ?_
      clear hI hI7 hI8
      simp only [Exit.then]
      go_wp2_with fail
      go_ret
      exact ⟨rfl, ((O6.trans P67 (by simp)).trans P8 (by simp)).below (Nat.le_refl _) (by simp)⟩
    · have hL : l = [] := by rw [← hl.out]; exact enc_bad (by rw [hE.out]; exact hz)
      subst hL
      dsimp only
      go_wp2_with fail
      go_ret
      exact ⟨rfl, O4.below (Nat.le_refl _) (by simp)⟩

theorem mlen {W : World} (h : W.ShapedOpen Tryd.prog) : ∃ m, W.cell? ⟨0, 0, none⟩ = some (.int .i64 m) :=
  cell_of_shapedOpen_int (t := 3) (zero := #[.int .i64 0]) h (of_decide_eq_true (by kernel_rfl)) (by kernel_rfl) rfl (by kernel_rfl) (by kernel_rfl) Tryd.underlying3

set_option maxRecDepth 100000 in
theorem messageBack_law : LawWalkC Tryd.prog 8 Tryd.f8 := by
  intro H enc W base args ds ps hval hA hsz hshape
  rw [Tryd.params8] at hA hval hsz
  obtain ⟨m, hm⟩ := mlen hshape
  obtain ⟨v0, d0, rfl, rfl, h0⟩ := trodAll_one hA
  obtain ⟨x, rfl, ok⟩ := openM (hval 0 47 v0 rfl rfl) h0
  exact messageBack_walk x m W hm ok

set_option maxRecDepth 100000 in
theorem messageBack_row : Rows.MessageBackSaid :=
  OpenClaim.holds_of_wide 8 Tryd.f8 rfl rfl rfl rfl rfl rfl rfl ⟨rfl, rfl, rfl, rfl, rfl⟩ rfl rfl rfl rfl rfl (by kernel_rfl) Tryd.func8 (by kernel_rfl)
    (of_decide_eq_true (by kernel_rfl)) (by unfold Func.isWrapper; rw [if_neg (by decide +kernel)]; exact ⟨rfl, rfl⟩)
    (fun os started H enc _ => law_liftedC own laidOut Tryd.underlying4 8 Tryd.f8 Rows.messageBackSpec Tryd.func8 (by kernel_rfl) (by kernel_rfl) (by kernel_rfl) rfl
      (fun H ds hl => by
        have hl : ds.length = 1 := hl
        match ds, hl with
        | [d1], _ => rfl)
      (fun w => laidMetH Tryd.prog Rows.messageBackRow.laid w)
      messageBack_law os started H enc
      (ChangeSpec.witness_shaped (enc := enc) (C := Tryd.checked) (os := os) (X := fun w _ => laidMetH Tryd.prog Rows.messageBackRow.laid w) false (World.laidAll Tryd.prog os Rows.messageBackRow.laid) #[.agg #[.int .i64 0, .int .u32 0, .int .u32 0, .int .u32 0, .int .u32 0, .int .u32 0, .string ⟨#[]⟩, .string ⟨#[]⟩, .bool false, .slice none 0 0]] 8 (World.laidAll_os _ _ _)
        (World.shaped_of_ZipB (by kernel_rfl) (by kernel_rfl)) (by kernel_rfl) (by kernel_rfl) (by kernel_rfl)
        (by rw [MakeChecks.laidMetH_plain _ _ _ (by kernel_rfl)]; exact laidMet_laidAll _ (by kernel_rfl) (by kernel_rfl))))

/-- The tied card. -/
theorem messageBack_holds : Rows.MessageBackCardSaid :=
  Claim7.holds_tied_plain_at .later [] [.data, .pinned] true (true, "9ca5a9288dacc4b7a82c1f30f08b8fed368f3e6485138822b6e4b460b2353955") false messageBack_row (fun _ h => by cases h) (by kernel_rfl) (fun _ h => by cases h) messageBack_row_tie rfl ⟨rfl, rfl⟩ (by kernel_rfl) rfl
    (fun f fn hf hfn => by
      obtain rfl : f = 8 := Option.some.inj ((show Tryd.prog.funcNamed "parlour/parlourlaw03.MessageBack" = some 8 by kernel_rfl).symm.trans hf) |>.symm
      obtain rfl : fn = Tryd.f8 := (Option.some.inj (Tryd.func8.symm.trans hfn)).symm
      exact ⟨by kernel_rfl, fun j t ht => by
        rw [Tryd.params8] at ht
        have hm : t ∈ [47] := by simpa using Array.mem_of_getElem? ht
        have hall : ([47].all fun u => !Tryd.prog.wantsStandIn u) = true := by kernel_rfl
        exact (show Tryd.prog.wantsStandIn t = false by simpa using List.all_eq_true.1 hall t hm)⟩)
    (by kernel_rfl)
#print axioms messageBack_holds
end Go.Proofs.YtdmjabfjkkjhbaaDoor
