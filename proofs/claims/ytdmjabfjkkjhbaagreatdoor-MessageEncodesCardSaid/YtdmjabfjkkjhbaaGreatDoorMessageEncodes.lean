/- The law MessageEncodes holds: for every message; no condition. -/
import Derived.Test.YtdmjabfjkkjhbaaGreatDoorMsgT
import Derived.Test.YtdmjabfjkkjhbaaGreatDoorOpenM
import Derived.Test.YtdmjabfjkkjhbaaGreatDoorFrameC
import Derived.Test.YtdmjabfjkkjhbaaGreatDoorTie
import Derived.Test.YtdmjabfjkkjhbaaGreatDoorCards
namespace Go.Proofs.YtdmjabfjkkjhbaaGreatDoor
set_option linter.all false
open Go.ChangeShapes Go.WideShapes Go.ChangeAt Go.RowKit Go.Deep
theorem OwnB.wrote {w : World} {base g n cap : Nat} {l : List Int} (h : OwnB w base (.slice (some ⟨g, 0, none⟩) n cap) l) (i : Nat) (hi : i < l.length) (x : Int) : OwnB (w.setCell ⟨g, i, none⟩ (.int .u8 x)) base (.slice (some ⟨g, 0, none⟩) n cap) (l.set i x) := by
  rcases h.2 with ⟨h', _⟩ | ⟨g', cap', cur, h', hb, hg, hn, hc, hs, ht⟩
  · simp at h'
  · simp only [Value.slice.injEq, Option.some.injEq, Addr.mk.injEq, and_true, true_and] at h'
    obtain ⟨rfl, rfl, rfl⟩ := h'
    refine ⟨by simp [u8s], .inr ⟨g, cap, cur.set! i (.int .u8 x), by simp, hb, ?_, by simpa using hn, hc, by simpa using hs, ?_⟩⟩
    · simp [World.setCell, Array.getElem?_modify, hg]
    · simp at ht hs ⊢
      rw [List.take_set, ht]
      simp [u8s, List.map_set]
theorem OwnB.frozenAt {w : World} {base g n cap : Nat} {l : List Int} (h : OwnB w base (.slice (some ⟨g, 0, none⟩) n cap) l) (j : Nat) : w.frozen? ⟨g, j, none⟩ = false := by
  rcases h.2 with ⟨h', _⟩ | ⟨g', cap', cur, h', hb, hg, _⟩
  · simp at h'
  · simp only [Value.slice.injEq, Option.some.injEq, Addr.mk.injEq, and_true, true_and] at h'
    obtain ⟨rfl, rfl, rfl⟩ := h'
    simp [World.frozen?, hg]
/-- The bytes of a slice of the call's own, each raised by one. -/
def RaiseRel (wc : World) (base n : Nat) (v : Value) (i : Value) (wp : World) : Prop := ∃ (k : Nat) (l : List Int), k ≤ n ∧ i = .int .i64 k ∧ l.length = n ∧ OwnB wp base v l ∧ Only v.ownBlock.toList wc wp
theorem part_same {a b : MD} (h : SameM a b) (j : Nat) : partP b j = partP a j := by
  match j with
  | 0 => show (⟨3, b.code, [], []⟩ : PF) = ⟨3, a.code, [], []⟩; rw [h.code]
  | 1 => show (⟨4, 0, b.data, []⟩ : PF) = ⟨4, 0, a.data, []⟩; rw [h.data]
  | 2 => show (⟨4, 0, sOf b.lang, []⟩ : PF) = ⟨4, 0, sOf a.lang, []⟩; rw [h.lang]
  | 3 => show (⟨4, 0, sOf b.name, []⟩ : PF) = ⟨4, 0, sOf a.name, []⟩; rw [h.name]
  | 4 => show (⟨2, if b.want then 1 else 0, [], []⟩ : PF) = ⟨2, if a.want then 1 else 0, [], []⟩; rw [h.want]
  | 5 => show (⟨6, 0, b.data, []⟩ : PF) = ⟨6, 0, a.data, []⟩; rw [h.data]
  | 6 => show (⟨3, b.sender, [], []⟩ : PF) = ⟨3, a.sender, [], []⟩; rw [h.sender]
  | 7 => show (⟨3, b.window, [], []⟩ : PF) = ⟨3, a.window, [], []⟩; rw [h.window]
  | 8 => show (⟨3, b.packet, [], []⟩ : PF) = ⟨3, a.packet, [], []⟩; rw [h.packet]
  | n + 9 => show (⟨3, b.chan, [], []⟩ : PF) = ⟨3, a.chan, [], []⟩; rw [h.chan]
theorem enc_same {a b : MD} (h : SameM a b) : encP b = encP a := by
  unfold encP
  rw [h.kind, fits_same h]
  cases rowL a.kind with
  | none => rfl
  | some js =>
    dsimp only
    rw [show js.map (partP b) = js.map (partP a) from List.map_congr_left (fun j _ => part_same h j)]
set_option maxRecDepth 100000 in
set_option maxHeartbeats 6400000 in
theorem messageEncodes_walk (m : MD) (i0 : Int) (w : World) (hm : w.cell? ⟨0, 0, none⟩ = some (.int .i64 i0)) (ok : m.ok w) :
    Calls Tryz.prog 3 #[m.val] w fun e w' => e = .returned (.bool true) ∧ Below w.heap.size w w' := by
  obtain ⟨w1, hw1⟩ : ∃ w1, w1 = w.alloc (.cells #[.int .i64 m.kind, .int .u32 m.chan, .int .u32 m.sender, .int .u32 m.window, .int .u32 m.packet, .int .u32 m.code, .string m.name, .string m.lang, .bool m.want, .slice m.dA m.data.length m.dc] 25) := ⟨_, rfl⟩
  have P1 : Only [] w w1 := by rw [hw1]; exact (Only.refl _ _).alloc _
  have K1 : Blk w1 w.heap.size 25 m.cells := by rw [hw1]; exact Blk.new w _ _
  have h0 : 0 < w.heap.size := Nat.pos_of_ne_zero (fun e => by
    have := block_lt_of_cell hm
    simp only at this
    omega)
  have AL := alive03 w1 i0 (cellL P1 h0 (by simp) hm)
  unfold MD.val
  go_enter Tryz.func3, Tryz.ntmps3
  go_wp2_with fail
  rw [← hw1]
  replace hw1 := hide hw1
  go_call AL as e w2 ⟨rfl, P2⟩
  clear AL
  have O2 : Only [] w w2 := P1.trans P2 (by simp)
  have K2 := K1.only P2 (by simp)
  have GR := mgreat_any m w2
  unfold MD.val at GR
  have a0 : w2.cell? ⟨w.heap.size, 0, none⟩ = some (.int .i64 m.kind) := K2.cell 0
  have a1 : w2.cell? ⟨w.heap.size, 1, none⟩ = some (.int .u32 m.chan) := K2.cell 1
  have a2 : w2.cell? ⟨w.heap.size, 2, none⟩ = some (.int .u32 m.sender) := K2.cell 2
  have a3 : w2.cell? ⟨w.heap.size, 3, none⟩ = some (.int .u32 m.window) := K2.cell 3
  have a4 : w2.cell? ⟨w.heap.size, 4, none⟩ = some (.int .u32 m.packet) := K2.cell 4
  have a5 : w2.cell? ⟨w.heap.size, 5, none⟩ = some (.int .u32 m.code) := K2.cell 5
  have a6 : w2.cell? ⟨w.heap.size, 6, none⟩ = some (.string m.name) := K2.cell 6
  have a7 : w2.cell? ⟨w.heap.size, 7, none⟩ = some (.string m.lang) := K2.cell 7
  have a8 : w2.cell? ⟨w.heap.size, 8, none⟩ = some (.bool m.want) := K2.cell 8
  have a9 : w2.cell? ⟨w.heap.size, 9, none⟩ = some (.slice m.dA m.data.length m.dc) := K2.cell 9
  go_wp2_with fail
  go_call GR as e w3 ⟨P3, b, rfl, hb⟩
  clear GR
  clear a0 a1 a2 a3 a4 a5 a6 a7 a8 a9
  have O3 : Only [] w w3 := O2.trans P3 (by simp)
  have K3 := K2.only P3 (by simp)
  cases b with
  | true =>
    clear hb
    go_wp2_with fail
    go_ret
    exact ⟨rfl, O3.below (Nat.le_refl _) (by simp)⟩
  | false =>
    obtain ⟨g1, g2, g3⟩ := hb rfl
    have CP := refMCopy_any m w3 (ok.only O3) (by omega)
    unfold MD.val at CP
    have a0 : w3.cell? ⟨w.heap.size, 0, none⟩ = some (.int .i64 m.kind) := K3.cell 0
    have a1 : w3.cell? ⟨w.heap.size, 1, none⟩ = some (.int .u32 m.chan) := K3.cell 1
    have a2 : w3.cell? ⟨w.heap.size, 2, none⟩ = some (.int .u32 m.sender) := K3.cell 2
    have a3 : w3.cell? ⟨w.heap.size, 3, none⟩ = some (.int .u32 m.window) := K3.cell 3
    have a4 : w3.cell? ⟨w.heap.size, 4, none⟩ = some (.int .u32 m.packet) := K3.cell 4
    have a5 : w3.cell? ⟨w.heap.size, 5, none⟩ = some (.int .u32 m.code) := K3.cell 5
    have a6 : w3.cell? ⟨w.heap.size, 6, none⟩ = some (.string m.name) := K3.cell 6
    have a7 : w3.cell? ⟨w.heap.size, 7, none⟩ = some (.string m.lang) := K3.cell 7
    have a8 : w3.cell? ⟨w.heap.size, 8, none⟩ = some (.bool m.want) := K3.cell 8
    have a9 : w3.cell? ⟨w.heap.size, 9, none⟩ = some (.slice m.dA m.data.length m.dc) := K3.cell 9
    go_wp2_with fail
    go_call CP as e w4 ⟨P4, m2, rfl, ok2, same, _⟩
    clear CP
    clear a0 a1 a2 a3 a4 a5 a6 a7 a8 a9
    have O4 : Only [] w w4 := O3.trans P4 (by simp)
    obtain ⟨w5, hw5⟩ : ∃ w5, w5 = w4.alloc (.cells #[.int .i64 m2.kind, .int .u32 m2.chan, .int .u32 m2.sender, .int .u32 m2.window, .int .u32 m2.packet, .int .u32 m2.code, .string m2.name, .string m2.lang, .bool m2.want, .slice m2.dA m2.data.length m2.dc] 25) := ⟨_, rfl⟩
    have P5 : Only [] w4 w5 := by rw [hw5]; exact (Only.refl _ _).alloc _
    have Q5 : Blk w5 w4.heap.size 25 m2.cells := by rw [hw5]; exact Blk.new w4 _ _
    have O5 : Only [] w w5 := O4.trans P5 (by simp)
    have K5 : Blk w5 w.heap.size 25 m.cells := (K3.only P4 (by simp)).only P5 (by simp)
    have ok5 := ok2.only P5
    have EN := encode_any m2 w5 ok5 (by rw [same.name]; omega) (by rw [same.lang]; omega)
    rw [enc_same same] at EN
    obtain ⟨E, hE⟩ : ∃ E, (encP m).1 = E := ⟨_, rfl⟩
    obtain ⟨l, hl⟩ : ∃ l, (encP m).2 = l := ⟨_, rfl⟩
    have hp : encP m = (E, l) := by rw [← hE, ← hl]
    rw [hp] at EN
    unfold MD.val at EN
    have a0 : w5.cell? ⟨w4.heap.size, 0, none⟩ = some (.int .i64 m2.kind) := Q5.cell 0
    have a1 : w5.cell? ⟨w4.heap.size, 1, none⟩ = some (.int .u32 m2.chan) := Q5.cell 1
    have a2 : w5.cell? ⟨w4.heap.size, 2, none⟩ = some (.int .u32 m2.sender) := Q5.cell 2
    have a3 : w5.cell? ⟨w4.heap.size, 3, none⟩ = some (.int .u32 m2.window) := Q5.cell 3
    have a4 : w5.cell? ⟨w4.heap.size, 4, none⟩ = some (.int .u32 m2.packet) := Q5.cell 4
    have a5 : w5.cell? ⟨w4.heap.size, 5, none⟩ = some (.int .u32 m2.code) := Q5.cell 5
    have a6 : w5.cell? ⟨w4.heap.size, 6, none⟩ = some (.string m2.name) := Q5.cell 6
    have a7 : w5.cell? ⟨w4.heap.size, 7, none⟩ = some (.string m2.lang) := Q5.cell 7
    have a8 : w5.cell? ⟨w4.heap.size, 8, none⟩ = some (.bool m2.want) := Q5.cell 8
    have a9 : w5.cell? ⟨w4.heap.size, 9, none⟩ = some (.slice m2.dA m2.data.length m2.dc) := Q5.cell 9
    replace hE := hide hE
    replace hl := hide hl
    go_wp2_with fail
    rw [← hw5]
    replace hw5 := hide hw5
    go_call EN as e w6 ⟨P6, v, rfl, V⟩
    clear EN
    clear a0 a1 a2 a3 a4 a5 a6 a7 a8 a9
    have O6 : Only [] w w6 := O5.trans P6 (by simp)
    have K6 := K5.only P6 (by simp)
    have RE := refMEncode_any m w6 (ok.only O6) (by omega) (by omega)
    rw [hp] at RE
    unfold MD.val at RE
    replace hp := hide hp
    have a0 : w6.cell? ⟨w.heap.size, 0, none⟩ = some (.int .i64 m.kind) := K6.cell 0
    have a1 : w6.cell? ⟨w.heap.size, 1, none⟩ = some (.int .u32 m.chan) := K6.cell 1
    have a2 : w6.cell? ⟨w.heap.size, 2, none⟩ = some (.int .u32 m.sender) := K6.cell 2
    have a3 : w6.cell? ⟨w.heap.size, 3, none⟩ = some (.int .u32 m.window) := K6.cell 3
    have a4 : w6.cell? ⟨w.heap.size, 4, none⟩ = some (.int .u32 m.packet) := K6.cell 4
    have a5 : w6.cell? ⟨w.heap.size, 5, none⟩ = some (.int .u32 m.code) := K6.cell 5
    have a6 : w6.cell? ⟨w.heap.size, 6, none⟩ = some (.string m.name) := K6.cell 6
    have a7 : w6.cell? ⟨w.heap.size, 7, none⟩ = some (.string m.lang) := K6.cell 7
    have a8 : w6.cell? ⟨w.heap.size, 8, none⟩ = some (.bool m.want) := K6.cell 8
    have a9 : w6.cell? ⟨w.heap.size, 9, none⟩ = some (.slice m.dA m.data.length m.dc) := K6.cell 9
    have hvb := V.block
    obtain ⟨A1, k1, rfl, R1, q1, m1, a1⟩ := V.rd
    obtain ⟨n, hn⟩ : ∃ n, l.length = n := ⟨_, rfl⟩
    dsimp only at R1 q1 hvb V ⊢
    rw [hn] at V q1 hvb ⊢
    go_wp2_with fail
    go_call RE as e w7 ⟨P7, v2, rfl, V2⟩
    clear RE
    clear a0 a1 a2 a3 a4 a5 a6 a7 a8 a9
    obtain ⟨A2, k2, rfl, R2, q2, m2', a2⟩ := V2.rd
    clear V2
    dsimp only at R2 q2 ⊢
    have O7 : Only [] w w7 := O6.trans P7 (by simp)
    have BY := bytes_any w7 A1 A2 l l k1 k2 (R1.only P7) R2 (by omega) (by omega)
    rw [show eqB l l = true from decide_eq_true rfl, hn] at BY
    rw [hn] at q2 ⊢
    replace hn := hide hn
    go_wp2_with fail
    go_call BY as e w8 ⟨rfl, P8⟩
    clear BY
    have P68 : Only [] w6 w8 := P7.trans P8 (by simp)
    have O8 : Only [] w w8 := O6.trans P68 (by simp)
    have V8 : OwnB w8 w5.heap.size (.slice A1 n k1) l := V.far P68 (fun x hx => by simp at hx)
    have hn9 : n ≤ 9223372036854775807 := by unfold maxLen at m1; omega
    have P58 : Only [] w5 w8 := P6.trans P68 (by simp)
    clear V
    go_wp2_with fail
    go_loopw [36] (fun i wp => RaiseRel w8 w5.heap.size n (.slice A1 n k1) i wp) (fun i _ => n - (intOf i).toNat)
    case atStart => exact ⟨0, _, Nat.zero_le _, rfl, hn.out, V8, Only.refl _ _⟩
    case round =>
      obtain ⟨wp, rfl⟩ : ∃ wp : World, wp = wr := ⟨_, rfl⟩
      obtain ⟨kp, lp, hkp, rfl, hlp, Vp, Pp⟩ := hrel
      replace hlp := hide hlp
      by_cases hltp : kp < n
      · obtain ⟨gg, cc, e', hg', hgl'⟩ := Vp.form (by rw [hlp.out]; omega)
        have e'' : A1 = some ⟨gg, 0, none⟩ := by injection e'
        subst e''
        clear e'
        obtain ⟨x', hx'⟩ : ∃ x, lp[kp]? = some x := ⟨_, List.getElem?_eq_getElem (by rw [hlp.out]; exact hltp)⟩
        have cx' : wp.cell? ⟨gg, kp, none⟩ = some (.int .u8 x') := by
          have := World.ownsRow.cells Vp (g := gg) rfl kp (.int .u8 x') (by rw [getElem?_u8s, hx']; rfl)
          simpa [Addr.add_lit] using this
        have fx' : wp.frozen? ⟨gg, kp, none⟩ = false := OwnB.frozenAt Vp kp
        replace hx' := hide hx'
        go_wp2
        go_roundw
        case rel => exact ⟨kp + 1, lp.set kp _, by omega, by go_num, by rw [List.length_set]; exact hlp.out, Vp.wrote kp (by rw [hlp.out]; exact hltp) _, Pp.setCell (p := ⟨gg, kp, none⟩) (.inl (by simp [Value.ownBlock])) _⟩
        case measure => simp [intOf]; omega
      · obtain rfl : kp = n := by omega
        have P5p : Only [] w5 wp := P58.trans Pp (fun x hx => .inr (hvb x (by simpa using hx)).1)
        have Op : Only [] w wp := O5.trans P5p (by simp)
        have Qp := Q5.only P5p (by simp)
        have Kp := K5.only P5p (by simp)
        have SM := msame_any m2 m wp (ok5.only P5p) (ok.only Op) same.symm
        unfold MD.val at SM
        have a0 : wp.cell? ⟨w.heap.size, 0, none⟩ = some (.int .i64 m.kind) := Kp.cell 0
        have a1 : wp.cell? ⟨w.heap.size, 1, none⟩ = some (.int .u32 m.chan) := Kp.cell 1
        have a2 : wp.cell? ⟨w.heap.size, 2, none⟩ = some (.int .u32 m.sender) := Kp.cell 2
        have a3 : wp.cell? ⟨w.heap.size, 3, none⟩ = some (.int .u32 m.window) := Kp.cell 3
        have a4 : wp.cell? ⟨w.heap.size, 4, none⟩ = some (.int .u32 m.packet) := Kp.cell 4
        have a5 : wp.cell? ⟨w.heap.size, 5, none⟩ = some (.int .u32 m.code) := Kp.cell 5
        have a6 : wp.cell? ⟨w.heap.size, 6, none⟩ = some (.string m.name) := Kp.cell 6
        have a7 : wp.cell? ⟨w.heap.size, 7, none⟩ = some (.string m.lang) := Kp.cell 7
        have a8 : wp.cell? ⟨w.heap.size, 8, none⟩ = some (.bool m.want) := Kp.cell 8
        have a9 : wp.cell? ⟨w.heap.size, 9, none⟩ = some (.slice m.dA m.data.length m.dc) := Kp.cell 9
        have b0 : wp.cell? ⟨w4.heap.size, 0, none⟩ = some (.int .i64 m2.kind) := Qp.cell 0
        have b1 : wp.cell? ⟨w4.heap.size, 1, none⟩ = some (.int .u32 m2.chan) := Qp.cell 1
        have b2 : wp.cell? ⟨w4.heap.size, 2, none⟩ = some (.int .u32 m2.sender) := Qp.cell 2
        have b3 : wp.cell? ⟨w4.heap.size, 3, none⟩ = some (.int .u32 m2.window) := Qp.cell 3
        have b4 : wp.cell? ⟨w4.heap.size, 4, none⟩ = some (.int .u32 m2.packet) := Qp.cell 4
        have b5 : wp.cell? ⟨w4.heap.size, 5, none⟩ = some (.int .u32 m2.code) := Qp.cell 5
        have b6 : wp.cell? ⟨w4.heap.size, 6, none⟩ = some (.string m2.name) := Qp.cell 6
        have b7 : wp.cell? ⟨w4.heap.size, 7, none⟩ = some (.string m2.lang) := Qp.cell 7
        have b8 : wp.cell? ⟨w4.heap.size, 8, none⟩ = some (.bool m2.want) := Qp.cell 8
        have b9 : wp.cell? ⟨w4.heap.size, 9, none⟩ = some (.slice m2.dA m2.data.length m2.dc) := Qp.cell 9
        go_wp2_with fail
        go_call SM as e w9 ⟨rfl, P9⟩
        go_wp2_with fail
        go_ret
        exact ⟨rfl, (Op.trans P9 (by simp)).below (Nat.le_refl _) (by simp)⟩

theorem mlen {W : World} (h : W.ShapedOpen Tryz.prog) : ∃ m, W.cell? ⟨0, 0, none⟩ = some (.int .i64 m) :=
  cell_of_shapedOpen_int (t := 3) (zero := #[.int .i64 0]) h (of_decide_eq_true (by kernel_rfl)) (by kernel_rfl) rfl (by kernel_rfl) (by kernel_rfl) Tryz.underlying3

set_option maxRecDepth 100000 in
theorem messageEncodes_law : LawWalkC Tryz.prog 3 Tryz.f3 := by
  intro H enc W base args ds ps hval hA hsz hshape
  rw [Tryz.params3] at hA hval hsz
  obtain ⟨m, hm⟩ := mlen hshape
  obtain ⟨v0, d0, rfl, rfl, h0⟩ := trodAll_one hA
  obtain ⟨x, rfl, ok⟩ := openM (hval 0 25 v0 rfl rfl) h0
  exact messageEncodes_walk x m W hm ok

set_option maxRecDepth 100000 in
theorem messageEncodes_row : Rows.MessageEncodesSaid :=
  OpenClaim.holds_of_wide 3 Tryz.f3 rfl rfl rfl rfl rfl rfl rfl ⟨rfl, rfl, rfl, rfl, rfl⟩ rfl rfl rfl rfl rfl (by kernel_rfl) Tryz.func3 (by kernel_rfl)
    (of_decide_eq_true (by kernel_rfl)) (by unfold Func.isWrapper; rw [if_neg (by decide +kernel)]; exact ⟨rfl, rfl⟩)
    (fun os started H enc _ => law_liftedC own laidOut Tryz.underlying4 3 Tryz.f3 Rows.messageEncodesSpec Tryz.func3 (by kernel_rfl) (by kernel_rfl) (by kernel_rfl) rfl
      (fun H ds hl => by
        have hl : ds.length = 1 := hl
        match ds, hl with
        | [d1], _ => rfl)
      (fun w => laidMetH Tryz.prog Rows.messageEncodesRow.laid w)
      messageEncodes_law os started H enc
      (ChangeSpec.witness_shaped (enc := enc) (C := Tryz.checked) (os := os) (X := fun w _ => laidMetH Tryz.prog Rows.messageEncodesRow.laid w) false (World.laidAll Tryz.prog os Rows.messageEncodesRow.laid) #[.agg #[.int .i64 0, .int .u32 0, .int .u32 0, .int .u32 0, .int .u32 0, .int .u32 0, .string ⟨#[]⟩, .string ⟨#[]⟩, .bool false, .slice none 0 0]] 8 (World.laidAll_os _ _ _)
        (World.shaped_of_ZipB (by kernel_rfl) (by kernel_rfl)) (by kernel_rfl) (by kernel_rfl) (by kernel_rfl)
        (by rw [MakeChecks.laidMetH_plain _ _ _ (by kernel_rfl)]; exact laidMet_laidAll _ (by kernel_rfl) (by kernel_rfl))))

/-- The tied card. -/
theorem messageEncodes_holds : Rows.MessageEncodesCardSaid :=
  Claim7.holds_tied_plain_at .later [] [.data, .pinned] true (true, "748944305270fcee2e7d9451fc92c9eabb5ad02bf83181437fcea669d262f7da") false messageEncodes_row (fun _ h => by cases h) (by kernel_rfl) (fun _ h => by cases h) messageEncodes_row_tie rfl ⟨rfl, rfl⟩ (by kernel_rfl) rfl
    (fun f fn hf hfn => by
      obtain rfl : f = 3 := Option.some.inj ((show Tryz.prog.funcNamed "parlour/parlourlaw03.MessageEncodes" = some 3 by kernel_rfl).symm.trans hf) |>.symm
      obtain rfl : fn = Tryz.f3 := (Option.some.inj (Tryz.func3.symm.trans hfn)).symm
      exact ⟨by kernel_rfl, fun j t ht => by
        rw [Tryz.params3] at ht
        have hm : t ∈ [25] := by simpa using Array.mem_of_getElem? ht
        have hall : ([25].all fun u => !Tryz.prog.wantsStandIn u) = true := by kernel_rfl
        exact (show Tryz.prog.wantsStandIn t = false by simpa using List.all_eq_true.1 hall t hm)⟩)
    (by kernel_rfl)
#print axioms messageEncodes_holds
end Go.Proofs.YtdmjabfjkkjhbaaGreatDoor
