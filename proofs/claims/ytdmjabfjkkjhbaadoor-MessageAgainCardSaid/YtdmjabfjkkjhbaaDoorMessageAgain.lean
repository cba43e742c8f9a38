/- The law MessageAgain holds: for all bytes; no condition. -/
import Derived.Test.YtdmjabfjkkjhbaaDoorMsgM
import Derived.Test.YtdmjabfjkkjhbaaDoorMsgKD
import Derived.Test.YtdmjabfjkkjhbaaDoorHeldB
import Derived.Test.YtdmjabfjkkjhbaaDoorOpenM
import Derived.Test.YtdmjabfjkkjhbaaDoorFrameC
import Derived.Test.YtdmjabfjkkjhbaaDoorHeld
import Derived.Test.YtdmjabfjkkjhbaaDoorTie
import Derived.Test.YtdmjabfjkkjhbaaDoorCards
namespace Go.Proofs.YtdmjabfjkkjhbaaDoor
set_option linter.all false
open Go.ChangeShapes Go.WideShapes Go.ChangeAt Go.RowKit Go.Deep

set_option maxRecDepth 100000 in
set_option maxHeartbeats 6400000 in
theorem messageAgain_walk (A : Option Addr) (l : List Int) (c : Nat) (i0 : Int) (w : World) (hm : w.cell? ⟨0, 0, none⟩ = some (.int .i64 i0)) (h : Rd w A l) (hl : InB l) (hlc : l.length ≤ c) (hcm : c ≤ maxLen) (hal : ∀ a, A = some a → a.block < w.heap.size) :
    Calls Tryd.prog 9 #[.slice A l.length c] w fun e w' => e = .returned (.bool true) ∧ Below w.heap.size w w' := by
  have h0 : 0 < w.heap.size := Nat.pos_of_ne_zero (fun e => by
    have := block_lt_of_cell hm
    simp only at this
    omega)
  have AL := alive03 w i0 hm
  obtain ⟨n, hn⟩ : ∃ n, l.length = n := ⟨_, rfl⟩
  by_cases hbig : 33792 < n
  · rw [hn]
    have hb2 : (33792 : Int) < (n : Int) := by omega
    replace hn := hide hn
    go_enter Tryd.func9, Tryd.ntmps9
    go_wp2_with fail
    go_call AL as e w1 ⟨rfl, P1⟩
    go_wp2_with fail
    go_ret
    exact ⟨rfl, P1.below (Nat.le_refl _) (by simp)⟩
  · have hb2 : ¬ (33792 : Int) < (n : Int) := by omega
    have DC := fun (w2 : World) (P : Only [] w w2) => decode_is A l c i0 w2 (cellL P h0 (by simp) hm) (h.only P) hl (by omega) hlc hcm (fun a ha => by have := hal a ha; have := P.size; omega)
    rw [hn] at hlc DC ⊢
    replace hn := hide hn
    replace DC := hide DC
    replace hl := hide hl
    go_enter Tryd.func9, Tryd.ntmps9
    go_wp2_with fail
    go_call AL as e w1 ⟨rfl, P1⟩
    clear AL
    have D1 := DC.out w1 P1
    go_wp2_with fail
    go_call D1 as e w2 ⟨P2, m, E, rfl, ok, new, hD⟩
    clear D1 DC
    have O2 : Only [] w w2 := P1.trans P2 (by simp)
    obtain ⟨w3, hw3⟩ : ∃ w3, w3 = w2.alloc (.cells #[.int .i64 m.kind, .int .u32 m.chan, .int .u32 m.sender, .int .u32 m.window, .int .u32 m.packet, .int .u32 m.code, .string m.name, .string m.lang, .bool m.want, .slice m.dA m.data.length m.dc] 47) := ⟨_, rfl⟩
    have P3 : Only [] w2 w3 := by rw [hw3]; exact (Only.refl _ _).alloc _
    have K3 : Blk w3 w2.heap.size 47 m.cells := by rw [hw3]; exact Blk.new w2 _ _
    have O3 : Only [] w w3 := O2.trans P3 (by simp)
    have ok3 := ok.only P3
    by_cases hz : E = 0
    · subst hz
      obtain ⟨hz, hlen, ⟨k, t, u, e1, e2⟩, hsame⟩ := magain_law hl.out (by have := hn.out; omega) hD
      obtain ⟨hs1, hs2⟩ := own_small (.inl hz) (enc_ok hz).choose_spec.1 hsame
      have EN := encode_any m w3 ok3 (by omega) (by omega)
      have hin := enc_inb ok3
      obtain ⟨l2, hl2⟩ : ∃ l2, (encP m).2 = l2 := ⟨_, rfl⟩
      have hp : encP m = (0, l2) := by rw [← hz, ← hl2]
      rw [hp] at EN
      rw [hl2] at hlen e2 hin
      subst e1
      subst e2
      obtain ⟨b1, off1, y, rfl, hb1, hy, cx1⟩ := RdG.at (mk := .int .u8) h 0 (by simp)
      simp at hy
      subst hy
      rw [Nat.add_zero] at cx1
      have hk8 := hl.out k (by simp)
      have hn1 : 1 ≤ n := by rw [← hn.out]; simp
      rw [hn.out] at hlen
      replace hlen := hide hlen
      replace hp := hide hp
      replace hl2 := hide hl2
      replace hin := hide hin
      unfold MD.val at EN
      have a0 : w3.cell? ⟨w2.heap.size, 0, none⟩ = some (.int .i64 m.kind) := K3.cell 0
      have a1 : w3.cell? ⟨w2.heap.size, 1, none⟩ = some (.int .u32 m.chan) := K3.cell 1
      have a2 : w3.cell? ⟨w2.heap.size, 2, none⟩ = some (.int .u32 m.sender) := K3.cell 2
      have a3 : w3.cell? ⟨w2.heap.size, 3, none⟩ = some (.int .u32 m.window) := K3.cell 3
      have a4 : w3.cell? ⟨w2.heap.size, 4, none⟩ = some (.int .u32 m.packet) := K3.cell 4
      have a5 : w3.cell? ⟨w2.heap.size, 5, none⟩ = some (.int .u32 m.code) := K3.cell 5
      have a6 : w3.cell? ⟨w2.heap.size, 6, none⟩ = some (.string m.name) := K3.cell 6
      have a7 : w3.cell? ⟨w2.heap.size, 7, none⟩ = some (.string m.lang) := K3.cell 7
      have a8 : w3.cell? ⟨w2.heap.size, 8, none⟩ = some (.bool m.want) := K3.cell 8
      have a9 : w3.cell? ⟨w2.heap.size, 9, none⟩ = some (.slice m.dA m.data.length m.dc) := K3.cell 9
      unfold MD.val
      go_wp2_with fail
      rw [← hw3]
      replace hw3 := hide hw3
      go_call EN as e w4 ⟨P4, v, rfl, V⟩
      clear a0 a1 a2 a3 a4 a5 a6 a7 a8 a9
      clear EN
      have O4 : Only [] w w4 := O3.trans P4 (by simp)
      have K4 := K3.only P4 (by simp)
      have hvb := V.block
      obtain ⟨A2, k2, rfl, R2, q2, m2, a2⟩ := V.rd
      clear V
      have m4 : w4.cell? ⟨0, 0, none⟩ = some (.int .i64 i0) := cellL O4 h0 (by simp) hm
      dsimp only at R2 q2 hvb ⊢
      rw [hlen.out] at q2
      have DC := decode_is A2 (k :: u) k2 i0 w4 m4 R2 hin.out (by rw [hlen.out]; omega) (by rw [hlen.out]; exact q2) m2 (fun a ha => (hvb a.block (by rw [ha]; rfl)).2)
      obtain ⟨b2, off2, y, rfl, hb2', hy, cx2⟩ := RdG.at (mk := .int .u8) R2 0 (by simp)
      simp at hy
      subst hy
      rw [Nat.add_zero] at cx2
      rw [hlen.out] at DC ⊢
      go_wp2_with fail
      go_call DC as e w5 ⟨P5, x, D, rfl, okx, newx, hD2⟩
      clear DC
      rw [← hl2.out] at hD2
      obtain ⟨rfl, hs3, _, _⟩ := mback_law ok.nums hz hD2
      have hxm : SameM x m := hs3.trans hsame.symm
      clear hD hD2
      obtain ⟨w6, hw6⟩ : ∃ w6, w6 = w5.alloc (.cells #[.int .i64 x.kind, .int .u32 x.chan, .int .u32 x.sender, .int .u32 x.window, .int .u32 x.packet, .int .u32 x.code, .string x.name, .string x.lang, .bool x.want, .slice x.dA x.data.length x.dc] 47) := ⟨_, rfl⟩
      have P6 : Only [] w5 w6 := by rw [hw6]; exact (Only.refl _ _).alloc _
      have X6 : Blk w6 w5.heap.size 47 x.cells := by rw [hw6]; exact Blk.new w5 _ _
      have P46 : Only [] w4 w6 := P5.trans P6 (by simp)
      have K6 := K4.only P46 (by simp)
      have O6 : Only [] w w6 := O4.trans P46 (by simp)
      have okx6 := okx.only P6
      have ok6 := ok3.only (P4.trans P46 (by simp))
      have hI : (fun w' : World => Blk w' w2.heap.size 47 m.cells ∧ Blk w' w5.heap.size 47 x.cells ∧ w'.cell? ⟨b1, off1, none⟩ = some (.int .u8 k) ∧ w'.cell? ⟨b2, off2, none⟩ = some (.int .u8 k)) { w6 with drawn := w6.drawn + 1 } := ⟨K6, X6, cellL O6 hb1 (by simp) cx1, cellL P46 hb2' (by simp) cx2⟩
      have SM1 := msame_any x m w6.drew (okx6.only ((Only.refl _ w6).drew)) (ok6.only ((Only.refl _ w6).drew)) hxm
      unfold MD.val at SM1
      have i1 : (0 : Int) < (n : Int) := by omega
      unfold MD.val
      go_wp2_with fail
      rw [← hw6]
      replace hw6 := hide hw6
      refine wp_region_E (fun w' : World => Blk w' w2.heap.size 47 m.cells ∧ Blk w' w5.heap.size 47 x.cells ∧ w'.cell? ⟨b1, off1, none⟩ = some (.int .u8 k) ∧ w'.cell? ⟨b2, off2, none⟩ = some (.int .u8 k)) [] (by kernel_rfl) ?_
      refine wpAnyE_take 0 (v := (.int .i64 0)) rfl (by kernel_rfl) (fun _ _ _ h => h) hI (fun w' hw' => Or.inl ⟨by kernel_rfl, Or.inl (by go_simp; (try omega))⟩) ?_
      refine wpAnyE_take 1 (v := (.bool true)) rfl (by kernel_rfl) (fun _ _ _ h => h) hI (fun w' hw' => Or.inl ⟨by kernel_rfl, Or.inl (by go_simp; (try omega))⟩) ?_
      refine wpAnyE_take 2 (v := (.bool true)) rfl (by kernel_rfl) (fun _ _ _ h => h) hI (fun w' hw' => Or.inl ⟨by kernel_rfl, Or.inl (by go_simp; (try omega))⟩) ?_
      refine wpAnyE_take 3 (v := (.int .i64 0)) rfl (by kernel_rfl) (fun _ _ _ h => h) hI (fun w' hw' => Or.inl ⟨by kernel_rfl, Or.inl (by go_simp; (try omega))⟩) ?_
      refine wpAnyE_take 4 (v := (.bool true)) rfl (by kernel_rfl) (fun _ _ _ h => h) hI (fun w' hw' => Or.inl ⟨by kernel_rfl, Or.inl (by go_simp; (try omega))⟩) ?_
      refine wpAnyE_take 5 (v := (.bool true)) rfl (by kernel_rfl) (fun _ _ _ h => h) hI (fun w' hw' => Or.inl ⟨by kernel_rfl, Or.inl (by go_simp; (try omega))⟩) ?_
      refine wpAnyE_take 6 (v := (.bool true)) rfl (by kernel_rfl) (fun _ _ _ h => h) hI (fun w' hw' => Or.inl ⟨by kernel_rfl, Or.inl (by go_simp; (try omega))⟩) ?_
      refine wpAnyE_take 7 (v := (.slice (some ⟨b2, off2, none⟩) n k2)) rfl (by kernel_rfl) (fun _ _ _ h => h) hI (fun w' hw' => Or.inl ⟨by kernel_rfl, Or.inl (by go_simp; (try omega))⟩) ?_
      refine wpAnyE_take 8 (v := (.int .i64 (n : Int))) rfl (by kernel_rfl) (fun _ _ _ h => h) hI (fun w' hw' => Or.inl ⟨by kernel_rfl, Or.inl (by go_simp; (try omega))⟩) ?_
      refine wpAnyE_take 9 (v := (.slice (some ⟨b1, off1, none⟩) n c)) rfl (by kernel_rfl) (fun _ _ _ h => h) hI (fun w' hw' => Or.inl ⟨by kernel_rfl, Or.inl (by go_simp; (try omega))⟩) ?_
      refine wpAnyE_take 10 (v := (.int .i64 (n : Int))) rfl (by kernel_rfl) (fun _ _ _ h => h) hI (fun w' hw' => Or.inl ⟨by kernel_rfl, Or.inl (by go_simp; (try omega))⟩) ?_
      refine wpAnyE_take 11 (v := (.bool true)) rfl (by kernel_rfl) (fun _ _ _ h => h) hI (fun w' hw' => Or.inl ⟨by kernel_rfl, Or.inl (by go_simp; (try omega))⟩) ?_
      refine wpAnyE_take 12 (v := (.bool true)) rfl (by kernel_rfl) (fun _ _ _ h => h) hI (fun w' hw' => Or.inl ⟨by kernel_rfl, Or.inl (by go_simp; (try omega))⟩) ?_
      refine wpAnyE_take 13 (v := (.bool true)) rfl (by kernel_rfl) (fun _ _ _ h => h) hI (fun w' hw' => Or.inl ⟨by kernel_rfl, Or.inl (by go_simp; (try omega))⟩) ?_
      refine wpAnyE_take 14 (v := (.slice (some ⟨b1, off1, none⟩) n c)) rfl (by kernel_rfl) (fun _ _ _ h => h) hI (fun w' hw' => Or.inl ⟨by kernel_rfl, Or.inl (by go_simp; (try omega))⟩) ?_
      refine wpAnyE_take 15 (v := (.pointer (some ⟨b1, off1, none⟩))) rfl (by kernel_rfl) (fun _ _ _ h => h) hI (fun w' hw' => Or.inl ⟨by kernel_rfl, Or.inl (by go_simp; (try omega))⟩) ?_
      refine wpAnyE_take 16 (v := (.int .u8 k)) rfl (by kernel_rfl) (fun _ _ _ h => h) hI (fun w' hw' => Or.inl ⟨by kernel_rfl, Or.inl (by have y0 := hw'.2.2.1; go_simp; (try omega))⟩) ?_
      refine wpAnyE_take 17 (v := (.slice (some ⟨b2, off2, none⟩) n k2)) rfl (by kernel_rfl) (fun _ _ _ h => h) hI (fun w' hw' => Or.inl ⟨by kernel_rfl, Or.inl (by go_simp; (try omega))⟩) ?_
      refine wpAnyE_take 18 (v := (.pointer (some ⟨b2, off2, none⟩))) rfl (by kernel_rfl) (fun _ _ _ h => h) hI (fun w' hw' => Or.inl ⟨by kernel_rfl, Or.inl (by go_simp; (try omega))⟩) ?_
      refine wpAnyE_take 19 (v := (.int .u8 k)) rfl (by kernel_rfl) (fun _ _ _ h => h) hI (fun w' hw' => Or.inl ⟨by kernel_rfl, Or.inl (by have y0 := hw'.2.2.2; go_simp; (try omega))⟩) ?_
      refine wpAnyE_take 20 (v := (.bool true)) rfl (by kernel_rfl) (fun _ _ _ h => h) hI (fun w' hw' => Or.inl ⟨by kernel_rfl, Or.inl (by go_simp; (try omega))⟩) ?_
      refine wpAnyE_take 21 (v := (.bool true)) rfl (by kernel_rfl) (fun _ _ _ h => h) hI (fun w' hw' => Or.inl ⟨by kernel_rfl, Or.inl (by go_simp; (try omega))⟩) ?_
      refine wpAnyE_take 22 (v := (.bool true)) rfl (by kernel_rfl) (fun _ _ _ h => h) hI (fun w' hw' => Or.inl ⟨by kernel_rfl, Or.inl (by go_simp; (try omega))⟩) ?_
      refine wpAnyE_take 23 (v := (.agg #[.int .i64 x.kind, .int .u32 x.chan, .int .u32 x.sender, .int .u32 x.window, .int .u32 x.packet, .int .u32 x.code, .string x.name, .string x.lang, .bool x.want, .slice x.dA x.data.length x.dc])) rfl (by kernel_rfl) (fun _ _ _ h => h) hI (fun w' hw' => Or.inl ⟨by kernel_rfl, Or.inl (by have y0 : w'.cell? ⟨w5.heap.size, 0, none⟩ = some (.int .i64 x.kind) := hw'.2.1.cell 0; have y1 : w'.cell? ⟨w5.heap.size, 1, none⟩ = some (.int .u32 x.chan) := hw'.2.1.cell 1; have y2 : w'.cell? ⟨w5.heap.size, 2, none⟩ = some (.int .u32 x.sender) := hw'.2.1.cell 2; have y3 : w'.cell? ⟨w5.heap.size, 3, none⟩ = some (.int .u32 x.window) := hw'.2.1.cell 3; have y4 : w'.cell? ⟨w5.heap.size, 4, none⟩ = some (.int .u32 x.packet) := hw'.2.1.cell 4; have y5 : w'.cell? ⟨w5.heap.size, 5, none⟩ = some (.int .u32 x.code) := hw'.2.1.cell 5; have y6 : w'.cell? ⟨w5.heap.size, 6, none⟩ = some (.string x.name) := hw'.2.1.cell 6; have y7 : w'.cell? ⟨w5.heap.size, 7, none⟩ = some (.string x.lang) := hw'.2.1.cell 7; have y8 : w'.cell? ⟨w5.heap.size, 8, none⟩ = some (.bool x.want) := hw'.2.1.cell 8; have y9 : w'.cell? ⟨w5.heap.size, 9, none⟩ = some (.slice x.dA x.data.length x.dc) := hw'.2.1.cell 9; go_simp; (try omega))⟩) ?_
      refine wpAnyE_take 24 (v := (.agg #[.int .i64 m.kind, .int .u32 m.chan, .int .u32 m.sender, .int .u32 m.window, .int .u32 m.packet, .int .u32 m.code, .string m.name, .string m.lang, .bool m.want, .slice m.dA m.data.length m.dc])) rfl (by kernel_rfl) (fun _ _ _ h => h) hI (fun w' hw' => Or.inl ⟨by kernel_rfl, Or.inl (by have y0 : w'.cell? ⟨w2.heap.size, 0, none⟩ = some (.int .i64 m.kind) := hw'.1.cell 0; have y1 : w'.cell? ⟨w2.heap.size, 1, none⟩ = some (.int .u32 m.chan) := hw'.1.cell 1; have y2 : w'.cell? ⟨w2.heap.size, 2, none⟩ = some (.int .u32 m.sender) := hw'.1.cell 2; have y3 : w'.cell? ⟨w2.heap.size, 3, none⟩ = some (.int .u32 m.window) := hw'.1.cell 3; have y4 : w'.cell? ⟨w2.heap.size, 4, none⟩ = some (.int .u32 m.packet) := hw'.1.cell 4; have y5 : w'.cell? ⟨w2.heap.size, 5, none⟩ = some (.int .u32 m.code) := hw'.1.cell 5; have y6 : w'.cell? ⟨w2.heap.size, 6, none⟩ = some (.string m.name) := hw'.1.cell 6; have y7 : w'.cell? ⟨w2.heap.size, 7, none⟩ = some (.string m.lang) := hw'.1.cell 7; have y8 : w'.cell? ⟨w2.heap.size, 8, none⟩ = some (.bool m.want) := hw'.1.cell 8; have y9 : w'.cell? ⟨w2.heap.size, 9, none⟩ = some (.slice m.dA m.data.length m.dc) := hw'.1.cell 9; go_simp; (try omega))⟩) ?_
      refine wpAnyE_one 25 rfl (by kernel_rfl) hI (fun K hK => ?_)
      rw [if_pos (by kernel_rfl)]
      go_simp
      go_call SM1 as e w7 ⟨rfl, P7⟩
      have P67 : Only [] w6 w7 := ((Only.refl _ w6).drew).trans P7 (by simp)
      have hI7 : (fun w' : World => Blk w' w2.heap.size 47 m.cells ∧ Blk w' w5.heap.size 47 x.cells ∧ w'.cell? ⟨b1, off1, none⟩ = some (.int .u8 k) ∧ w'.cell? ⟨b2, off2, none⟩ = some (.int .u8 k)) w7 := ⟨K6.only P67 (by simp), X6.only P67 (by simp), cellL (O6.trans P67 (by simp)) hb1 (by simp) cx1, cellL (P46.trans P67 (by simp)) hb2' (by simp) cx2⟩
      refine hK _ _ ?_
      clear hK K SM1
      have OWN := mown_any m w7
      unfold MD.val at OWN
      refine wpAnyE_take 26 (v := (.bool true)) rfl (by kernel_rfl) (fun _ _ _ h => h) hI7 (fun w' hw' => Or.inl ⟨by kernel_rfl, Or.inl (by go_simp; (try omega))⟩) ?_
      refine wpAnyE_take 27 (v := (.bool true)) rfl (by kernel_rfl) (fun _ _ _ h => h) hI7 (fun w' hw' => Or.inl ⟨by kernel_rfl, Or.inl (by go_simp; (try omega))⟩) ?_
      refine wpAnyE_take 28 (v := (.agg #[.int .i64 m.kind, .int .u32 m.chan, .int .u32 m.sender, .int .u32 m.window, .int .u32 m.packet, .int .u32 m.code, .string m.name, .string m.lang, .bool m.want, .slice m.dA m.data.length m.dc])) rfl (by kernel_rfl) (fun _ _ _ h => h) hI7 (fun w' hw' => Or.inl ⟨by kernel_rfl, Or.inl (by have y0 : w'.cell? ⟨w2.heap.size, 0, none⟩ = some (.int .i64 m.kind) := hw'.1.cell 0; have y1 : w'.cell? ⟨w2.heap.size, 1, none⟩ = some (.int .u32 m.chan) := hw'.1.cell 1; have y2 : w'.cell? ⟨w2.heap.size, 2, none⟩ = some (.int .u32 m.sender) := hw'.1.cell 2; have y3 : w'.cell? ⟨w2.heap.size, 3, none⟩ = some (.int .u32 m.window) := hw'.1.cell 3; have y4 : w'.cell? ⟨w2.heap.size, 4, none⟩ = some (.int .u32 m.packet) := hw'.1.cell 4; have y5 : w'.cell? ⟨w2.heap.size, 5, none⟩ = some (.int .u32 m.code) := hw'.1.cell 5; have y6 : w'.cell? ⟨w2.heap.size, 6, none⟩ = some (.string m.name) := hw'.1.cell 6; have y7 : w'.cell? ⟨w2.heap.size, 7, none⟩ = some (.string m.lang) := hw'.1.cell 7; have y8 : w'.cell? ⟨w2.heap.size, 8, none⟩ = some (.bool m.want) := hw'.1.cell 8; have y9 : w'.cell? ⟨w2.heap.size, 9, none⟩ = some (.slice m.dA m.data.length m.dc) := hw'.1.cell 9; go_simp; (try omega))⟩) ?_
      refine wpAnyE_take 29 (v := (.agg #[.int .i64 m.kind, .int .u32 m.chan, .int .u32 m.sender, .int .u32 m.window, .int .u32 m.packet, .int .u32 m.code, .string m.name, .string m.lang, .bool m.want, .slice m.dA m.data.length m.dc])) rfl (by kernel_rfl) (fun _ _ _ h => h) hI7 (fun w' hw' => Or.inl ⟨by kernel_rfl, Or.inl (by have y0 : w'.cell? ⟨w2.heap.size, 0, none⟩ = some (.int .i64 m.kind) := hw'.1.cell 0; have y1 : w'.cell? ⟨w2.heap.size, 1, none⟩ = some (.int .u32 m.chan) := hw'.1.cell 1; have y2 : w'.cell? ⟨w2.heap.size, 2, none⟩ = some (.int .u32 m.sender) := hw'.1.cell 2; have y3 : w'.cell? ⟨w2.heap.size, 3, none⟩ = some (.int .u32 m.window) := hw'.1.cell 3; have y4 : w'.cell? ⟨w2.heap.size, 4, none⟩ = some (.int .u32 m.packet) := hw'.1.cell 4; have y5 : w'.cell? ⟨w2.heap.size, 5, none⟩ = some (.int .u32 m.code) := hw'.1.cell 5; have y6 : w'.cell? ⟨w2.heap.size, 6, none⟩ = some (.string m.name) := hw'.1.cell 6; have y7 : w'.cell? ⟨w2.heap.size, 7, none⟩ = some (.string m.lang) := hw'.1.cell 7; have y8 : w'.cell? ⟨w2.heap.size, 8, none⟩ = some (.bool m.want) := hw'.1.cell 8; have y9 : w'.cell? ⟨w2.heap.size, 9, none⟩ = some (.slice m.dA m.data.length m.dc) := hw'.1.cell 9; go_simp; (try omega))⟩) ?_
      refine wpAnyE_one 30 rfl (by kernel_rfl) hI7 (fun K hK => ?_)
      rw [if_pos (by kernel_rfl)]
      go_simp
      go_call OWN as e w8 ⟨rfl, P8⟩
      have hI8 : (fun w' : World => Blk w' w2.heap.size 47 m.cells ∧ Blk w' w5.heap.size 47 x.cells ∧ w'.cell? ⟨b1, off1, none⟩ = some (.int .u8 k) ∧ w'.cell? ⟨b2, off2, none⟩ = some (.int .u8 k)) w8 := ⟨hI7.1.only P8 (by simp), hI7.2.1.only P8 (by simp), cellL P8 (by have := O6.size; have := P67.size; omega) (by simp) hI7.2.2.1, cellL P8 (by have := P46.size; have := P67.size; omega) (by simp) hI7.2.2.2⟩
      refine hK _ _ ?_
      clear hK K OWN
      have SM2 := msame_any m (ownM m) w8 (ok6.only (P67.trans P8 (by simp))) (own_ok (ok6.only (P67.trans P8 (by simp)))) hsame
      unfold MD.val at SM2
      refine wpAnyE_one 31 rfl (by kernel_rfl) hI8 (fun K hK => ?_)
      rw [if_pos (by kernel_rfl)]
      go_simp
      go_call SM2 as e w9 ⟨rfl, P9⟩
      have hI9 : (fun w' : World => Blk w' w2.heap.size 47 m.cells ∧ Blk w' w5.heap.size 47 x.cells ∧ w'.cell? ⟨b1, off1, none⟩ = some (.int .u8 k) ∧ w'.cell? ⟨b2, off2, none⟩ = some (.int .u8 k)) w9 := ⟨hI8.1.only P9 (by simp), hI8.2.1.only P9 (by simp), cellL P9 (by have := O6.size; have := P67.size; have := P8.size; omega) (by simp) hI8.2.2.1, cellL P9 (by have := P46.size; have := P67.size; have := P8.size; omega) (by simp) hI8.2.2.2⟩
      refine hK _ _ ?_
      clear hK K SM2
      refine wpAnyE_take 32 (v := (.bool true)) rfl (by kernel_rfl) (fun _ _ _ h => h) hI9 (fun w' hw' => Or.inl ⟨by kernel_rfl, Or.inl (by go_simp; (try omega))⟩) ?_
      refine wpAnyE_take 33 (v := (.bool true)) rfl (by kernel_rfl) (fun _ _ _ h => h) hI9 (fun w' hw' => Or.inl ⟨by kernel_rfl, Or.inl (by go_simp; (try omega))⟩) ?_
      refine wpAnyE_end (by kernel_rfl) hI9 ?_
      clear hI hI7 hI8 hI9
      simp only [Exit.then]
      go_wp2_with fail
      go_ret
      exact ⟨rfl, (((O6.trans P67 (by simp)).trans P8 (by simp)).trans P9 (by simp)).below (Nat.le_refl _) (by simp)⟩
    · obtain rfl := dec_bad hD hz
      have SM := msame_any zeroM zeroM w3 (zero_ok _) (zero_ok _) (SameM.refl _)
      unfold MD.val at SM
      have a0 : w3.cell? ⟨w2.heap.size, 0, none⟩ = some (.int .i64 zeroM.kind) := K3.cell 0
      have a1 : w3.cell? ⟨w2.heap.size, 1, none⟩ = some (.int .u32 zeroM.chan) := K3.cell 1
      have a2 : w3.cell? ⟨w2.heap.size, 2, none⟩ = some (.int .u32 zeroM.sender) := K3.cell 2
      have a3 : w3.cell? ⟨w2.heap.size, 3, none⟩ = some (.int .u32 zeroM.window) := K3.cell 3
      have a4 : w3.cell? ⟨w2.heap.size, 4, none⟩ = some (.int .u32 zeroM.packet) := K3.cell 4
      have a5 : w3.cell? ⟨w2.heap.size, 5, none⟩ = some (.int .u32 zeroM.code) := K3.cell 5
      have a6 : w3.cell? ⟨w2.heap.size, 6, none⟩ = some (.string zeroM.name) := K3.cell 6
      have a7 : w3.cell? ⟨w2.heap.size, 7, none⟩ = some (.string zeroM.lang) := K3.cell 7
      have a8 : w3.cell? ⟨w2.heap.size, 8, none⟩ = some (.bool zeroM.want) := K3.cell 8
      have a9 : w3.cell? ⟨w2.heap.size, 9, none⟩ = some (.slice zeroM.dA zeroM.data.length zeroM.dc) := K3.cell 9
      unfold MD.val
      go_wp2_with fail
      rw [← hw3]
      go_call SM as e w4 ⟨rfl, P4⟩
      go_wp2_with fail
      go_ret
      exact ⟨rfl, (O3.trans P4 (by simp)).below (Nat.le_refl _) (by simp)⟩

theorem mlen {W : World} (h : W.ShapedOpen Tryd.prog) : ∃ m, W.cell? ⟨0, 0, none⟩ = some (.int .i64 m) :=
  cell_of_shapedOpen_int (t := 3) (zero := #[.int .i64 0]) h (of_decide_eq_true (by kernel_rfl)) (by kernel_rfl) rfl (by kernel_rfl) (by kernel_rfl) Tryd.underlying3

set_option maxRecDepth 100000 in
theorem messageAgain_law : LawWalkC Tryd.prog 9 Tryd.f9 := by
  intro H enc W base args ds ps hval hA hsz hshape
  rw [Tryd.params9] at hA hval hsz
  obtain ⟨m, hm⟩ := mlen hshape
  obtain ⟨v0, d0, rfl, rfl, h0⟩ := trodAll_one hA
  obtain ⟨A, l, c, rfl, hlc, hcm, hR, hz, hal⟩ := open_sl Tryd.underlying23 Tryd.underlying5 (by kernel_rfl) (hval 0 23 v0 rfl rfl) h0
  exact messageAgain_walk A l c m W hm hR (fun x hx => by have := wf_u8 (hz x hx); omega) hlc hcm hal

set_option maxRecDepth 100000 in
theorem messageAgain_row : Rows.MessageAgainSaid :=
  OpenClaim.holds_of_wide 9 Tryd.f9 rfl rfl rfl rfl rfl rfl rfl ⟨rfl, rfl, rfl, rfl, rfl⟩ rfl rfl rfl rfl rfl (by kernel_rfl) Tryd.func9 (by kernel_rfl)
    (of_decide_eq_true (by kernel_rfl)) (by unfold Func.isWrapper; rw [if_neg (by decide +kernel)]; exact ⟨rfl, rfl⟩)
    (fun os started H enc _ => law_liftedC own laidOut Tryd.underlying4 9 Tryd.f9 Rows.messageAgainSpec Tryd.func9 (by kernel_rfl) (by kernel_rfl) (by kernel_rfl) rfl
      (fun H ds hl => by
        have hl : ds.length = 1 := hl
        match ds, hl with
        | [d1], _ => rfl)
      (fun w => laidMetH Tryd.prog Rows.messageAgainRow.laid w)
      messageAgain_law os started H enc
      (ChangeSpec.witness_shaped (enc := enc) (C := Tryd.checked) (os := os) (X := fun w _ => laidMetH Tryd.prog Rows.messageAgainRow.laid w) false (World.laidAll Tryd.prog os Rows.messageAgainRow.laid) #[.slice none 0 0] 8 (World.laidAll_os _ _ _)
        (World.shaped_of_ZipB (by kernel_rfl) (by kernel_rfl)) (by kernel_rfl) (by kernel_rfl) (by kernel_rfl)
        (by rw [MakeChecks.laidMetH_plain _ _ _ (by kernel_rfl)]; exact laidMet_laidAll _ (by kernel_rfl) (by kernel_rfl))))

/-- The tied card. -/
theorem messageAgain_holds : Rows.MessageAgainCardSaid :=
  Claim7.holds_tied_plain_at .later [] [.data, .pinned] true (true, "9ca5a9288dacc4b7a82c1f30f08b8fed368f3e6485138822b6e4b460b2353955") false messageAgain_row (fun _ h => by cases h) (by kernel_rfl) (fun _ h => by cases h) messageAgain_row_tie rfl ⟨rfl, rfl⟩ (by kernel_rfl) rfl
    (fun f fn hf hfn => by
      obtain rfl : f = 9 := Option.some.inj ((show Tryd.prog.funcNamed "parlour/parlourlaw03.MessageAgain" = some 9 by kernel_rfl).symm.trans hf) |>.symm
      obtain rfl : fn = Tryd.f9 := (Option.some.inj (Tryd.func9.symm.trans hfn)).symm
      exact ⟨by kernel_rfl, fun j t ht => by
        rw [Tryd.params9] at ht
        have hm : t ∈ [23] := by simpa using Array.mem_of_getElem? ht
        have hall : ([23].all fun u => !Tryd.prog.wantsStandIn u) = true := by kernel_rfl
        exact (show Tryd.prog.wantsStandIn t = false by simpa using List.all_eq_true.1 hall t hm)⟩)
    (by kernel_rfl)
#print axioms messageAgain_holds
end Go.Proofs.YtdmjabfjkkjhbaaDoor
