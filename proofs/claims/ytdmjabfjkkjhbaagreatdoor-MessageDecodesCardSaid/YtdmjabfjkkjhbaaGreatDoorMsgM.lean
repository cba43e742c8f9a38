/- Layer 3's own examples: they hold; no condition. -/
import Derived.Test.YtdmjabfjkkjhbaaGreatDoorMsgL
import Derived.Test.YtdmjabfjkkjhbaaGreatDoorOctW
namespace Go.Proofs.YtdmjabfjkkjhbaaGreatDoor
set_option linter.all false
open Go.RowKit

theorem decode_is (A : Option Addr) (l : List Int) (c : Nat) (i0 : Int) (w : World) (hm : w.cell? ⟨0, 0, none⟩ = some (.int .i64 i0)) (h : Rd w A l) (hl : ∀ x ∈ l, 0 ≤ x ∧ x < 256) (hln : l.length ≤ 140737488355000) (hlc : l.length ≤ c) (hlm : c ≤ maxLen) (hal : ∀ a, A = some a → a.block < w.heap.size) :
    Calls Tryz.prog 12 #[.slice A l.length c] w fun e w' => Only [] w w' ∧ ∃ (m : MD) (E : Int), e = .returned (.tuple #[m.val, .int .i64 E]) ∧ m.ok w' ∧ (∀ a, m.dA = some a → w.heap.size ≤ a.block) ∧ DecIs l m E :=
  (decode_any A l c i0 w hm h hl hln hlc hlm hal).mono fun e w' ⟨h1, m, E, h2, h3, h4, _, h5⟩ => ⟨h1, m, E, h2, h3, h4, h5⟩
/-- The same, with bytes that can be written. -/
theorem decode_soft (A : Option Addr) (l : List Int) (c : Nat) (i0 : Int) (w : World) (hm : w.cell? ⟨0, 0, none⟩ = some (.int .i64 i0)) (h : Rd w A l) (hl : ∀ x ∈ l, 0 ≤ x ∧ x < 256) (hln : l.length ≤ 140737488355000) (hlc : l.length ≤ c) (hlm : c ≤ maxLen) (hal : ∀ a, A = some a → a.block < w.heap.size) :
    Calls Tryz.prog 12 #[.slice A l.length c] w fun e w' => Only [] w w' ∧ ∃ (m : MD) (E : Int), e = .returned (.tuple #[m.val, .int .i64 E]) ∧ m.ok w' ∧ (∀ a, m.dA = some a → w.heap.size ≤ a.block) ∧ MSoft m w' ∧ DecIs l m E :=
  decode_any A l c i0 w hm h hl hln hlc hlm hal
theorem mexA (d : Option Addr) (c : Nat) : encP ⟨94, 7, 0, 0, 0, 0, ⟨#[]⟩, ⟨#[]⟩, false, d, c, [104, 105]⟩ = (0, [94, 0, 0, 0, 7, 0, 0, 0, 2, 104, 105]) := by
  have hr : rowL 94 = some [9, 1] := rfl
  unfold encP
  dsimp only
  rw [hr]
  dsimp only
  rw [if_pos (by rfl)]
  show writeP [⟨1, 94, [], []⟩, ⟨3, 7, [], []⟩, ⟨4, 0, [104, 105], []⟩] = _
  decide +kernel
theorem mexB {m : MD} {E : Int} (h : DecIs [81] m E) : E = 0 ∧ m.kind = 81 := by
  unfold DecIs at h
  dsimp only at h
  rw [show rowL 81 = some [5] from rfl] at h
  dsimp only at h
  rw [show readP (1 :: [5].map pk) [81] = (0, [⟨1, 81, [], []⟩, ⟨6, 0, [], []⟩]) by rfl, if_neg (by simp)] at h
  obtain ⟨fs, _, h⟩ := h
  rw [if_pos (by unfold fitsP; rw [putAll_kind]; rfl)] at h
  exact ⟨h.1, by rw [h.2, putAll_kind]; rfl⟩
theorem mexC {m : MD} {E : Int} (h : DecIs [3] m E) : E = 8 := by
  unfold DecIs at h
  exact h.1
theorem mexD {m : MD} {E : Int} (h : DecIs [94, 0] m E) : E = 3 := by
  unfold DecIs at h
  dsimp only at h
  rw [show rowL 94 = some [9, 1] from rfl] at h
  dsimp only at h
  rw [show (readP (1 :: [9, 1].map pk) [94, 0]).1 = 3 by rfl, if_pos (by decide)] at h
  exact h.1
set_option maxRecDepth 100000 in
set_option maxHeartbeats 3200000 in
theorem alive03 (w : World) (m : Int) (hm : w.cell? ⟨0, 0, none⟩ = some (.int .i64 m)) : Calls Tryz.prog 5 #[] w fun e w' => e = .returned (.bool true) ∧ Only [] w w' := by
  have kc := fun (w : World) (C : Array Value) (n c : Nat) => Lib.run_convert_bytes_const (P := Tryz.prog) w 23 5 C n c Tryz.underlying23 Tryz.underlying5
  have h0 : 0 < w.heap.size := Nat.pos_of_ne_zero (fun e => by
    have := block_lt_of_cell hm
    simp only at this
    omega)
  go_enter Tryz.func5, Tryz.ntmps5
  go_wp2_with fail
  obtain ⟨wa, hwa⟩ : ∃ wa, wa = w.alloc (.cells #[.int .u8 104, .int .u8 105] 5 (2, 3)) := ⟨_, rfl⟩
  have Pa : Only [] w wa := by rw [hwa]; exact (Only.refl _ _).alloc _
  have W1 := encode_any ⟨94, 7, 0, 0, 0, 0, ⟨#[]⟩, ⟨#[]⟩, false, some ⟨w.heap.size, 0, none⟩, 2, [104, 105]⟩ wa
    ⟨by rw [hwa]; exact rd_mark w _ _ [104, 105] rfl, by simp, by simp [maxLen], by simp, by simp [U32], Nat.zero_le _, Nat.zero_le _⟩ (Nat.zero_le _) (Nat.zero_le _)
  rw [mexA] at W1
  rw [← hwa]
  replace hwa := hide hwa
  go_call W1 as e w1 ⟨O1, v1, rfl, V1⟩
  have P1 : Only [] w w1 := Pa.trans O1 (by simp)
  obtain ⟨A1, k1, rfl, R1, q1, m1, a1⟩ := V1.rd
  clear W1 V1 Pa O1 a1
  go_wp2_with fail
  obtain ⟨wb, hwb⟩ : ∃ wb, wb = w1.alloc (.cells #[.int .u8 81] 5) := ⟨_, rfl⟩
  have Pb : Only [] w1 wb := by rw [hwb]; exact (Only.refl _ _).alloc _
  have W2 := decode_is (some ⟨w1.heap.size, 0, none⟩) [81] 1 m wb (cellL (P1.trans Pb (by simp)) h0 (by simp) hm) (by rw [hwb]; exact rd_mark w1 _ (0, 0) [81] rfl) (by simp) (by simp) (by simp) (by simp [maxLen]) (fun a ha => by simp at ha; subst ha; rw [hwb]; simp)
  rw [← hwb]
  replace hwb := hide hwb
  go_call W2 as e w2 ⟨O2, x2, E2, rfl, okx, _, hD⟩
  obtain ⟨rfl, hk2⟩ := mexB hD
  have P2 : Only [] w1 w2 := Pb.trans O2 (by simp)
  clear W2 hD Pb O2 okx
  replace hk2 := hide hk2
  unfold MD.val
  go_wp2_with fail
  obtain ⟨wc, hwc⟩ : ∃ wc, wc = w2.alloc (.cells #[.int .i64 x2.kind, .int .u32 x2.chan, .int .u32 x2.sender, .int .u32 x2.window, .int .u32 x2.packet, .int .u32 x2.code, .string x2.name, .string x2.lang, .bool x2.want, .slice x2.dA x2.data.length x2.dc] 25) := ⟨_, rfl⟩
  have hzc : wc.heap.size = w2.heap.size + 1 := by rw [hwc]; simp
  have Pc : Only [] w2 wc := by rw [hwc]; exact (Only.refl _ _).alloc _
  have Kc : Blk wc w2.heap.size 25 x2.cells := by rw [hwc]; exact Blk.new w2 _ _
  obtain ⟨wd, hwd⟩ : ∃ wd, wd = wc.alloc (.cells #[.int .u8 3] 5) := ⟨_, rfl⟩
  have Pd : Only [] wc wd := by rw [hwd]; exact (Only.refl _ _).alloc _
  have Rd3 : Rd wd (some ⟨wc.heap.size, 0, none⟩) [3] := by rw [hwd]; exact rd_mark wc _ (0, 0) [3] rfl
  have Qd := ((P1.trans P2 (by simp)).trans Pc (by simp)).trans Pd (by simp)
  have W3 := decode_is (some ⟨wc.heap.size, 0, none⟩) [3] 1 m wd (cellL Qd h0 (by simp) hm) Rd3 (by simp) (by simp) (by simp) (by simp [maxLen]) (fun a ha => by simp at ha; subst ha; rw [hwd]; simp)
  rw [← hwc, ← hwd]
  rw [hzc] at W3
  replace hwd := hide hwd
  replace hwc := hide hwc
  replace hzc := hide hzc
  go_call W3 as e w3 ⟨O3, x3, E3, rfl, okx3, _, hD⟩
  obtain rfl := mexC hD
  have P3 : Only [] wc w3 := Pd.trans O3 (by simp)
  have K3 := Kc.only P3 (by simp)
  clear W3 hD O3 okx3 Rd3 Pd Qd
  unfold MD.val
  go_wp2_with fail
  obtain ⟨we, hwe⟩ : ∃ we, we = w3.alloc (.cells #[.int .i64 x3.kind, .int .u32 x3.chan, .int .u32 x3.sender, .int .u32 x3.window, .int .u32 x3.packet, .int .u32 x3.code, .string x3.name, .string x3.lang, .bool x3.want, .slice x3.dA x3.data.length x3.dc] 25) := ⟨_, rfl⟩
  have hze : we.heap.size = w3.heap.size + 1 := by rw [hwe]; simp
  have Pe : Only [] w3 we := by rw [hwe]; exact (Only.refl _ _).alloc _
  obtain ⟨wf, hwf⟩ : ∃ wf, wf = we.alloc (.cells #[.int .u8 94, .int .u8 0] 5) := ⟨_, rfl⟩
  have Pf : Only [] we wf := by rw [hwf]; exact (Only.refl _ _).alloc _
  have Rd4 : Rd wf (some ⟨we.heap.size, 0, none⟩) [94, 0] := by rw [hwf]; exact rd_mark we _ (0, 0) [94, 0] rfl
  have Qf := ((((P1.trans P2 (by simp)).trans Pc (by simp)).trans P3 (by simp)).trans Pe (by simp)).trans Pf (by simp)
  have W4 := decode_is (some ⟨we.heap.size, 0, none⟩) [94, 0] 2 m wf (cellL Qf h0 (by simp) hm) Rd4 (by simp) (by simp) (by simp) (by simp [maxLen]) (fun a ha => by simp at ha; subst ha; rw [hwf]; simp)
  rw [← hwe, ← hwf]
  rw [hze] at W4
  replace hwf := hide hwf
  replace hwe := hide hwe
  replace hze := hide hze
  go_call W4 as e w4 ⟨O4, x4, E4, rfl, okx4, _, hD⟩
  obtain rfl := mexD hD
  have P4 : Only [] w3 w4 := (Pe.trans Pf (by simp)).trans O4 (by simp)
  have K4 := K3.only P4 (by simp)
  have b0 : w4.cell? ⟨w2.heap.size, 0, none⟩ = some (.int .i64 x2.kind) := K4.cell 0
  rw [hk2.out] at b0
  clear W4 hD O4 okx4 Rd4 Pf Pe Qf
  unfold MD.val
  go_wp2_with fail
  obtain ⟨wg, hwg⟩ : ∃ wg, wg = w4.alloc (.cells #[.int .i64 x4.kind, .int .u32 x4.chan, .int .u32 x4.sender, .int .u32 x4.window, .int .u32 x4.packet, .int .u32 x4.code, .string x4.name, .string x4.lang, .bool x4.want, .slice x4.dA x4.data.length x4.dc] 25) := ⟨_, rfl⟩
  have hzg : wg.heap.size = w4.heap.size + 1 := by rw [hwg]; simp
  have Pg : Only [] w4 wg := by rw [hwg]; exact (Only.refl _ _).alloc _
  obtain ⟨wh, hwh⟩ : ∃ wh, wh = wg.alloc (.cells #[.int .u8 94, .int .u8 0, .int .u8 0, .int .u8 0, .int .u8 7, .int .u8 0, .int .u8 0, .int .u8 0, .int .u8 2, .int .u8 104, .int .u8 105] 5) := ⟨_, rfl⟩
  have Ph : Only [] wg wh := by rw [hwh]; exact (Only.refl _ _).alloc _
  have Rh : Rd wh (some ⟨wg.heap.size, 0, none⟩) [94, 0, 0, 0, 7, 0, 0, 0, 2, 104, 105] := by rw [hwh]; exact rd_mark wg _ (0, 0) [94, 0, 0, 0, 7, 0, 0, 0, 2, 104, 105] rfl
  have Q14 : Only [] w1 wh := ((((P2.trans Pc (by simp)).trans P3 (by simp)).trans P4 (by simp)).trans Pg (by simp)).trans Ph (by simp)
  have B1 := bytes_any wh A1 (some ⟨wg.heap.size, 0, none⟩) [94, 0, 0, 0, 7, 0, 0, 0, 2, 104, 105] [94, 0, 0, 0, 7, 0, 0, 0, 2, 104, 105] k1 11 (R1.only Q14) Rh (by simp [maxLen]) (by simp [maxLen])
  rw [show eqB [94, 0, 0, 0, 7, 0, 0, 0, 2, 104, 105] [94, 0, 0, 0, 7, 0, 0, 0, 2, 104, 105] = true by rfl] at B1
  rw [← hwg, ← hwh]
  rw [hzg] at B1
  have b1 : wh.cell? ⟨w2.heap.size, 0, none⟩ = some (.int .i64 81) := cellL (Pg.trans Ph (by simp)) K4.lt (by simp) b0
  have hlt := K4.lt
  replace hwg := hide hwg
  replace hwh := hide hwh
  replace hzg := hide hzg
  clear b0
  go_call B1 as e w5 ⟨rfl, O5⟩
  have b2 : w5.cell? ⟨w2.heap.size, 0, none⟩ = some (.int .i64 81) := cellL O5 (by have := Pg.size; have := Ph.size; omega) (by simp) b1
  have Q5 : Only [] w w5 := (P1.trans Q14 (by simp)).trans O5 (by simp)
  clear b1 B1 Rh
  go_wp2_with fail
  go_ret
  exact ⟨rfl, Q5⟩
theorem cpM_ok {w : World} {m x : MD} (h : m.ok w) (j : Nat) (hx : x.ok w) : (cpM m x j).ok w := by
  obtain ⟨n1, n2, n3, n4, n5⟩ := h.nums
  obtain ⟨k1, k2, k3, k4, k5⟩ := hx.nums
  unfold cpM
  split
  · exact { hx with nums := ⟨k1, k2, k3, k4, n5⟩ }
  · exact { hx with data := h.data, dle := h.dle, dmax := h.dmax, bytes := h.bytes }
  · exact { hx with lang := h.lang }
  · exact { hx with name := h.name }
  · exact { hx with }
  · exact { hx with data := h.data, dle := h.dle, dmax := h.dmax, bytes := h.bytes }
  · exact { hx with nums := ⟨k1, n2, k3, k4, k5⟩ }
  · exact { hx with nums := ⟨k1, k2, n3, k4, k5⟩ }
  · exact { hx with nums := ⟨k1, k2, k3, n4, k5⟩ }
  · exact { hx with nums := ⟨n1, k2, k3, k4, k5⟩ }
theorem cps_ok {w : World} {m : MD} (h : m.ok w) : ∀ (js : List Nat) (x : MD), x.ok w → (js.foldl (cpM m) x).ok w
  | [], x, hx => hx
  | j :: js, x, hx => cps_ok h js _ (cpM_ok h j hx)
theorem own_ok {w : World} {m : MD} (h : m.ok w) : (ownM m).ok w := by
  unfold ownM
  split
  · exact first_ok w m.kind
  · exact cps_ok h _ _ (first_ok w m.kind)
end Go.Proofs.YtdmjabfjkkjhbaaGreatDoor
