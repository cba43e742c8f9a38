/- The document's answer for layer 3: Encode; no condition. -/
import Derived.Test.YtdmjabfjkkjhbaaGreatDoorMsgS
namespace Go.Proofs.YtdmjabfjkkjhbaaGreatDoor
set_option linter.all false
open Go.RowKit

set_option maxRecDepth 100000 in
set_option maxHeartbeats 6400000 in
theorem refMEncode_any (m : MD) (w : World) (ok : m.ok w) (hs : m.name.size ≤ 140737488355328) (hl : m.lang.size ≤ 140737488355328) : Calls Tryz.prog 9 #[m.val] w (WritePost w (encP m)) := by
  obtain ⟨w1, hw1⟩ : ∃ w1, w1 = w.alloc (.cells #[.int .i64 m.kind, .int .u32 m.chan, .int .u32 m.sender, .int .u32 m.window, .int .u32 m.packet, .int .u32 m.code, .string m.name, .string m.lang, .bool m.want, .slice m.dA m.data.length m.dc] 25) := ⟨_, rfl⟩
  have O1 : Only [] w w1 := by rw [hw1]; exact (Only.refl _ _).alloc _
  have K1 : Blk w1 w.heap.size 25 m.cells := by rw [hw1]; exact Blk.new w _ _
  have FA := fields_any m w1 (ok.only O1) hs hl
  unfold FieldsPost at FA
  unfold MD.val at FA ⊢
  cases hr : rowL m.kind with
  | none =>
    have hE : encP m = (8, []) := by unfold encP; rw [hr]
    rw [hr] at FA
    rw [hE]
    replace hE := hide hE
    replace hr := hide hr
    go_enter Tryz.func9, Tryz.ntmps9
    go_wp2_with fail
    rw [← hw1]
    replace hw1 := hide hw1
    go_call FA as e w2 ⟨P2, rfl⟩
    go_wp2_with fail
    go_ret2
    exact writePost_none _ _ _ (O1.trans P2 (by simp))
  | some js =>
    rw [hr] at FA
    have hk := (row_is hr).range
    have hjl := row_len hr
    replace hr := hide hr
    go_enter Tryz.func9, Tryz.ntmps9
    go_wp2_with fail
    rw [← hw1]
    replace hw1 := hide hw1
    go_call FA as e w2 ⟨P2, A, c, fs, rfl, RF, hfs, hfc, hcm⟩
    clear FA
    have O2 := O1.trans P2 (by simp)
    have K2 := K1.only P2 (by simp)
    have WD := refWords_any m w2 ok.name ok.lang
    unfold MD.val at WD
    have hfl : fs.length = js.length := by have := congrArg List.length hfs; simpa using this
    obtain ⟨n, hn⟩ : ∃ n, fs.length = n := ⟨_, rfl⟩
    rw [hn] at hfc ⊢
    replace hn := hide hn
    replace hfl := hide hfl
    replace hfs := hide hfs
    have a0 : w2.cell? ⟨w.heap.size, 0, none⟩ = some (.int .i64 m.kind) := K2.cell 0
    have a1 : w2.cell? ⟨w.heap.size, 1, none⟩ = some (.int .u32 m.chan) := K2.cell 1
    have a2 : w2.cell? ⟨w.heap.size, 2, none⟩ = some (.int .u32 m.sender) := K2.cell 2
    have a3 : w2.cell? ⟨w.heap.size, 3, none⟩ = some (.int .u32 m.window) := K2.cell 3
    have a4 : w2.cell? ⟨w.heap.size, 4, none⟩ = some (.int .u32 m.packet) := K2.cell 4
    have a5 : w2.cell? ⟨w.heap.size, 5, none⟩ = some (.int .u32 m.code) := K2.cell 5
    have a6 : w2.cell? ⟨w.heap.size, 6, none⟩ = some (.string m.name) := K2.cell 6
    have a7 : w2.cell? ⟨w.heap.size, 7, none⟩ = some (.string m.lang) := K2.cell 7
    have a8 : w2.cell? ⟨w.heap.size, 8, none⟩ = some (.bool m.want) := K2.cell 8
    have a9 : w2.cell? ⟨w.heap.size, 9, none⟩ = some (.slice m.dA m.data.length m.dc) := K2.cell 9
    go_wp2_with fail
    go_call WD as e w3 ⟨rfl, P3⟩
    clear a0 a1 a2 a3 a4 a5 a6 a7 a8 a9
    clear WD
    have O3 := O2.trans P3 (by simp)
    have K3 := K2.only P3 (by simp)
    cases hf : fitsP m with
    | false =>
      have hE : encP m = (4, []) := by unfold encP; rw [hr.out]; dsimp only; rw [hf]; rfl
      replace hE := hide hE
      replace hf := hide hf
      go_wp2_with fail
      go_ret2
      rw [hE.out]
      exact writePost_none _ _ _ O3
    | true =>
      have hE : encP m = writeP (⟨1, m.kind, [], []⟩ :: js.map (partP m)) := by unfold encP; rw [hr.out]; dsimp only; rw [hf]; rfl
      replace hE := hide hE
      replace hf := hide hf
      have a0 : w3.cell? ⟨w.heap.size, 0, none⟩ = some (.int .i64 m.kind) := K3.cell 0
      have hwr : IntKind.u32.wrap m.kind = m.kind := IntWalk.u32_in _ (by omega)
      obtain ⟨w4, hw4⟩ : ∃ w4, w4 = w3.alloc (.cells #[.int .i64 1, .int .u32 m.kind, .slice none 0 0, .slice none 0 0] 49) := ⟨_, rfl⟩
      have P4 : Only [] w3 w4 := by rw [hw4]; exact (Only.refl _ _).alloc _
      have V4 : OwnF w4 w3.heap.size (.slice (some ⟨w3.heap.size, 0, none⟩) 1 1) [⟨1, m.kind, none, 0, [], none, 0, []⟩] := by rw [hw4]; exact ownF_one w3 ⟨1, m.kind, none, 0, [], none, 0, []⟩ _ rfl
      have R4 : RdF w4 A fs := (RF.only P3).only P4
      have RF3 := RF.only P3
      go_wp2_with (at_builtin; rw [← hw4]; go_must (refine wpList_appFs rfl (.tmp 20) (.tmp 21) rfl w3.heap.size (.slice (some ⟨w3.heap.size, 0, none⟩) 1 1) [⟨1, m.kind, none, 0, [], none, 0, []⟩] rfl V4 A c fs n hn.out rfl R4 (by have := hfl.out; simp; omega) (by have := P4.size; omega) ?_; intro v5 w5 V5 P5; replace V5 := V5.out; have P35 : Only [] w3 w5 := P4.trans P5 (fun x hx => .inr (by simp [Value.ownBlock] at hx; omega)); obtain ⟨A5, k5, rfl, _, _, _⟩ := V5.form; have R5 : RdF w5 A5 ([⟨1, m.kind, none, 0, [], none, 0, []⟩] ++ fs) := V5.rdF (fun f hf => by rcases List.mem_append.1 hf with hf | hf; simp only [List.mem_singleton] at hf; subst hf; exact ⟨FD.ok.plain _ _ _, by dsimp only; omega, by dsimp only; omega⟩; exact ⟨(RF3.ok f hf).1.only P35, (RF3.ok f hf).2⟩); have WR := refWrite_any w5 A5 ([⟨1, m.kind, none, 0, [], none, 0, []⟩] ++ fs) k5 R5 (by have := hfl.out; simp; omega)))
      have hpf : ([⟨1, m.kind, none, 0, [], none, 0, []⟩] ++ fs : List FD).map FD.pf = ⟨1, m.kind, [], []⟩ :: js.map (partP m) := by rw [List.map_append, hfs.out]; rfl
      rw [hpf] at WR
      clear V5 R5 V4 R4
      go_wp2_with fail
      go_call WR as e w6 ⟨P6, v, rfl, V⟩
      go_wp2_with fail
      go_ret2
      have O5 : Only [] w w5 := O3.trans P35 (by simp)
      rw [hE.out]
      exact ⟨O5.trans P6 (by simp), _, rfl, V.down O5.size⟩
end Go.Proofs.YtdmjabfjkkjhbaaGreatDoor
