/- Layer 4: the document's examples; no condition. -/
import Derived.Test.YtmpeidliacbelaaGreatDoorReqJ
import Derived.Test.YtmpeidliacbelaaGreatDoorReqH
import Derived.Test.YtmpeidliacbelaaGreatDoorOctW
import Derived.Test.YtmpeidliacbelaaGreatDoorReqK
namespace Go.Proofs.YtmpeidliacbelaaGreatDoor
set_option linter.all false
open Go.RowKit

theorem rexA {m : RQ} {E : Int} (h : DecR ⟨#[101, 120, 101, 99]⟩ [0, 0, 0, 2, 108, 115] m E) : E = 0 ∧ m.kind = 4 ∧ m.text = ⟨#[108, 115]⟩ := by
  unfold DecR at h
  rw [show kindL (⟨#[101, 120, 101, 99]⟩ : ByteArray).data.toList = some 4 by decide] at h
  dsimp only at h
  unfold DecK at h
  rw [show readP (rkinds 4) [0, 0, 0, 2, 108, 115] = (0, [⟨4, 0, [108, 115], []⟩]) by rfl, if_neg (by simp)] at h
  obtain ⟨fs, e1, h⟩ := h
  obtain ⟨x, rfl, hx⟩ := fs1 e1
  have ht : x.text = [108, 115] := pf_text hx
  have hs : strOfNums x.text = ⟨#[108, 115]⟩ := by rw [ht]; rfl
  rw [if_pos (show askR (putR (firstR 4) 4 [x]) 4 = 0 by show longE (strOfNums x.text).size = 0; rw [hs]; rfl)] at h
  exact ⟨h.1, by rw [h.2]; rfl, by rw [h.2]; exact hs⟩
theorem rexB {m : RQ} {E : Int} (h : DecR ⟨#[115, 104, 101, 108, 108]⟩ [0] m E) : E = 4 := by
  unfold DecR at h
  rw [show kindL (⟨#[115, 104, 101, 108, 108]⟩ : ByteArray).data.toList = some 3 by decide] at h
  dsimp only at h
  unfold DecK at h
  rw [show readP (rkinds 3) [0] = (4, []) by rfl, if_pos (by simp)] at h
  exact h.1
theorem rexC {m : RQ} {E : Int} (h : DecR ⟨#[120, 49, 49, 45, 114, 101, 113]⟩ [] m E) : E = 8 := by
  unfold DecR at h
  rw [show kindL (⟨#[120, 49, 49, 45, 114, 101, 113]⟩ : ByteArray).data.toList = none by decide] at h
  exact h.1
def exR : RQ := ⟨9, ⟨#[]⟩, ⟨#[]⟩, ⟨#[]⟩, 0, 0, 0, 0, none, 0, [], false, 7⟩
theorem exR_ok (w : World) : exR.ok w := ⟨RdG.nil, by simp [exR], by simp [exR], by simp [exR], by simp [exR, U32, RNums], Nat.zero_le _, Nat.zero_le _, Nat.zero_le _⟩
theorem exR_enc : encR exR = (0, [0, 0, 0, 7]) := by
  rw [encR_go (k := 9) (by decide) (by decide) rfl rfl]
  show writeP [⟨3, 7, [], []⟩] = _
  decide +kernel
theorem exR_name : encName exR = ⟨#[101, 120, 105, 116, 45, 115, 116, 97, 116, 117, 115]⟩ := by
  rw [encName_ok (k := 9) rfl (by rw [exR_enc])]
  rfl
set_option maxRecDepth 100000 in
set_option maxHeartbeats 3200000 in
theorem alive04 (w : World) (m : Int) (hm : w.cell? ⟨0, 0, none⟩ = some (.int .i64 m)) : Calls Tryz.prog 5 #[] w fun e w' => e = .returned (.bool true) ∧ Only [] w w' := by
  have h0 : 0 < w.heap.size := Nat.pos_of_ne_zero (fun e => by
    have := block_lt_of_cell hm
    simp only at this
    omega)
  have I0 : Only [] w w := Only.refl _ _
  go_enter Tryz.func5, Tryz.ntmps5
  go_wp2_with fail
  obtain ⟨u1, hu1⟩ : ∃ u, u = w.alloc (.cells #[.int .u8 0, .int .u8 0, .int .u8 0, .int .u8 2, .int .u8 108, .int .u8 115] 5) := ⟨_, rfl⟩
  have U1 : Only [] w u1 := by rw [hu1]; exact (Only.refl _ _).alloc _
  have R1 : Rd u1 (some ⟨w.heap.size, 0, none⟩) [0, 0, 0, 2, 108, 115] := by rw [hu1]; exact rd_mark w _ (0, 0) [0, 0, 0, 2, 108, 115] rfl
  have zu1 : w.heap.size < u1.heap.size := by rw [hu1]; simp
  have D1 := rdecode_any ⟨#[101, 120, 101, 99]⟩ (some ⟨w.heap.size, 0, none⟩) [0, 0, 0, 2, 108, 115] 6 m u1 (cellL (I0.trans U1 (by simp)) h0 (by simp) hm) R1 (by simp) (by simp) (by simp) (by simp [maxLen]) (fun a ha => by simp at ha; subst ha; exact zu1)
  rw [← hu1]
  replace hu1 := hide hu1
  go_call D1 as e w1 ⟨O1, x1, E1, rfl, ok1, _, _, hD⟩
  obtain ⟨rfl, k1, t1⟩ := rexA hD
  have P1 : Only [] w w1 := U1.trans O1 (by simp)
  clear D1 hD U1 O1 R1 zu1 ok1
  replace k1 := hide k1
  replace t1 := hide t1
  unfold RQ.val
  have S1 : Only [] w1 (w1.alloc (.cells #[.int .i64 x1.kind, .string x1.text, .string x1.value, .string x1.lang, .int .u32 x1.cols, .int .u32 x1.rows, .int .u32 x1.width, .int .u32 x1.height, .slice x1.mA x1.modes.length x1.mc, .bool x1.on, .int .u32 x1.code] 28)) := (Only.refl _ _).alloc _
  have B1 : Blk (w1.alloc (.cells #[.int .i64 x1.kind, .string x1.text, .string x1.value, .string x1.lang, .int .u32 x1.cols, .int .u32 x1.rows, .int .u32 x1.width, .int .u32 x1.height, .slice x1.mA x1.modes.length x1.mc, .bool x1.on, .int .u32 x1.code] 28)) w1.heap.size 28 x1.cells := Blk.new _ _ _
  have zv1 : (w1.alloc (.cells #[.int .i64 x1.kind, .string x1.text, .string x1.value, .string x1.lang, .int .u32 x1.cols, .int .u32 x1.rows, .int .u32 x1.width, .int .u32 x1.height, .slice x1.mA x1.modes.length x1.mc, .bool x1.on, .int .u32 x1.code] 28)).heap.size = w1.heap.size + 1 := by simp
  obtain ⟨v1, hv1⟩ : ∃ v, v = w1.alloc (.cells #[.int .i64 x1.kind, .string x1.text, .string x1.value, .string x1.lang, .int .u32 x1.cols, .int .u32 x1.rows, .int .u32 x1.width, .int .u32 x1.height, .slice x1.mA x1.modes.length x1.mc, .bool x1.on, .int .u32 x1.code] 28) := ⟨_, rfl⟩
  rw [← hv1] at S1 B1 zv1
  have T1 : Only [] w v1 := P1.trans S1 (by simp)
  go_wp2_with fail
  obtain ⟨u2, hu2⟩ : ∃ u, u = v1.alloc (.cells #[.int .u8 0] 5) := ⟨_, rfl⟩
  have U2 : Only [] v1 u2 := by rw [hu2]; exact (Only.refl _ _).alloc _
  have R2 : Rd u2 (some ⟨v1.heap.size, 0, none⟩) [0] := by rw [hu2]; exact rd_mark v1 _ (0, 0) [0] rfl
  have zu2 : v1.heap.size < u2.heap.size := by rw [hu2]; simp
  have D2 := rdecode_any ⟨#[115, 104, 101, 108, 108]⟩ (some ⟨v1.heap.size, 0, none⟩) [0] 1 m u2 (cellL (T1.trans U2 (by simp)) h0 (by simp) hm) R2 (by simp) (by simp) (by simp) (by simp [maxLen]) (fun a ha => by simp at ha; subst ha; exact zu2)
  rw [← hv1, ← hu2]
  rw [zv1] at D2
  replace hu2 := hide hu2
  replace hv1 := hide hv1
  go_call D2 as e w2 ⟨O2, x2, E2, rfl, ok2, _, _, hD⟩
  obtain rfl := rexB hD
  have P2 : Only [] v1 w2 := U2.trans O2 (by simp)
  have B2 := B1.only P2 (by simp)
  clear D2 hD U2 O2 R2 zu2 ok2
  replace zv1 := hide zv1
  unfold RQ.val
  have S2 : Only [] w2 (w2.alloc (.cells #[.int .i64 x2.kind, .string x2.text, .string x2.value, .string x2.lang, .int .u32 x2.cols, .int .u32 x2.rows, .int .u32 x2.width, .int .u32 x2.height, .slice x2.mA x2.modes.length x2.mc, .bool x2.on, .int .u32 x2.code] 28)) := (Only.refl _ _).alloc _
  obtain ⟨v2, hv2⟩ : ∃ v, v = w2.alloc (.cells #[.int .i64 x2.kind, .string x2.text, .string x2.value, .string x2.lang, .int .u32 x2.cols, .int .u32 x2.rows, .int .u32 x2.width, .int .u32 x2.height, .slice x2.mA x2.modes.length x2.mc, .bool x2.on, .int .u32 x2.code] 28) := ⟨_, rfl⟩
  rw [← hv2] at S2
  have T2 : Only [] w v2 := (T1.trans P2 (by simp)).trans S2 (by simp)
  have B2 := B2.only S2 (by simp)
  go_wp2_with fail
  have D3 := rdecode_any ⟨#[120, 49, 49, 45, 114, 101, 113]⟩ none [] 0 m v2 (cellL T2 h0 (by simp) hm) RdG.nil (by simp) (by simp) (by simp) (by simp [maxLen]) (fun a ha => by cases ha)
  have U3 : Only [] v2 v2 := Only.refl _ _
  rw [← hv2]
  replace hv2 := hide hv2
  go_call D3 as e w3 ⟨O3, x3, E3, rfl, ok3, _, _, hD⟩
  obtain rfl := rexC hD
  have B3 := B2.only O3 (by simp)
  have T3 : Only [] w w3 := T2.trans O3 (by simp)
  clear D3 hD U3 O3 ok3
  unfold RQ.val
  have S3 : Only [] w3 (w3.alloc (.cells #[.int .i64 x3.kind, .string x3.text, .string x3.value, .string x3.lang, .int .u32 x3.cols, .int .u32 x3.rows, .int .u32 x3.width, .int .u32 x3.height, .slice x3.mA x3.modes.length x3.mc, .bool x3.on, .int .u32 x3.code] 28)) := (Only.refl _ _).alloc _
  obtain ⟨v3, hv3⟩ : ∃ v, v = w3.alloc (.cells #[.int .i64 x3.kind, .string x3.text, .string x3.value, .string x3.lang, .int .u32 x3.cols, .int .u32 x3.rows, .int .u32 x3.width, .int .u32 x3.height, .slice x3.mA x3.modes.length x3.mc, .bool x3.on, .int .u32 x3.code] 28) := ⟨_, rfl⟩
  rw [← hv3] at S3
  have T4 : Only [] w v3 := T3.trans S3 (by simp)
  have B4 := B3.only S3 (by simp)
  have EN := rencode_any exR v3 (exR_ok _) (Nat.zero_le _) (Nat.zero_le _) (Nat.zero_le _)
  unfold EncPost at EN
  rw [exR_enc, exR_name] at EN
  unfold RQ.val exR at EN
  go_wp2_with fail
  rw [← hv3]
  replace hv3 := hide hv3
  go_call EN as e w5 ⟨O5, v5, rfl, V5⟩
  clear EN
  obtain ⟨A1, c1, rfl, R1, q1, m1, a1⟩ := V5.rd
  have B5 := B4.only O5 (by simp)
  have T5 : Only [] w w5 := T4.trans O5 (by simp)
  have b0 : w5.cell? ⟨w1.heap.size, 0, none⟩ = some (.int .i64 x1.kind) := B5.cell 0
  have b1 : w5.cell? ⟨w1.heap.size, 1, none⟩ = some (.string x1.text) := B5.cell 1
  rw [k1.out] at b0
  rw [t1.out] at b1
  clear V5 a1
  have S6 : Only [] w5 (w5.alloc (.cells #[.int .u8 0, .int .u8 0, .int .u8 0, .int .u8 7] 5)) := (Only.refl _ _).alloc _
  have R6 : Rd (w5.alloc (.cells #[.int .u8 0, .int .u8 0, .int .u8 0, .int .u8 7] 5)) (some ⟨w5.heap.size, 0, none⟩) [0, 0, 0, 7] := rd_mark w5 _ (0, 0) [0, 0, 0, 7] rfl
  have BT := bytes_any _ A1 (some ⟨w5.heap.size, 0, none⟩) [0, 0, 0, 7] [0, 0, 0, 7] c1 4 (R1.only S6) R6 (by simp [maxLen]) (by simp [maxLen])
  rw [show eqB [0, 0, 0, 7] [0, 0, 0, 7] = true by rfl] at BT
  go_wp2_with fail
  go_call BT as e w6 ⟨rfl, O6⟩
  go_wp2_with fail
  go_ret
  exact ⟨rfl, (T5.trans S6 (by simp)).trans O6 (by simp)⟩
end Go.Proofs.YtmpeidliacbelaaGreatDoor
