/- The document's answer for layer 3: Decode; no condition but the number of bytes. -/
import Derived.Test.YtdmjabfjkkjhbaaGreatDoorMsgVA
import Derived.Test.YtdmjabfjkkjhbaaGreatDoorMsgVB
import Derived.Test.YtdmjabfjkkjhbaaGreatDoorMsgVC
import Derived.Test.YtdmjabfjkkjhbaaGreatDoorMsgVD
import Derived.Test.YtdmjabfjkkjhbaaGreatDoorMsgVE
import Derived.Test.YtdmjabfjkkjhbaaGreatDoorMsgVF
namespace Go.Proofs.YtdmjabfjkkjhbaaGreatDoor
set_option linter.all false
open Go.RowKit

set_option maxRecDepth 100000 in
set_option maxHeartbeats 3200000 in
theorem rdec_nil (A : Option Addr) (c : Nat) (w : World) : Calls Tryz.prog 13 #[.slice A 0 c] w (RDecPost w []) := by
  go_enter Tryz.func13, Tryz.ntmps13
  go_wp2_with fail
  (try simp only [Exit.inBlock, Exit.then])
  refine ret_dec (g := w.heap.size) (m := zeroM) rfl (by rfl) (by rfl) (Blk.new w 25 zeroM.cells) ?_
  exact ⟨(Only.refl _ _).alloc _, zeroM, 3, rfl, zero_ok _, rfl, rfl⟩
set_option maxRecDepth 100000 in
set_option maxHeartbeats 3200000 in
theorem rdec_none (A : Option Addr) (k : Int) (t : List Int) (c : Nat) (w : World) (h : Rd w A (k :: t)) (hl : InB (k :: t)) (hlc : (k :: t : List Int).length ≤ c) (hr : rowL k = none) :
    Calls Tryz.prog 13 #[.slice A (k :: t : List Int).length c] w (RDecPost w (k :: t)) := by
  obtain ⟨b, off, y, rfl, hb, hy, cx⟩ := RdG.at (mk := .int .u8) h 0 (by simp)
  simp at hy
  subst hy
  rw [Nat.add_zero] at cx
  have hk8 := hl k (by simp)
  have hwr : IntKind.i64.wrap k = k := IntWalk.i64_in _ (by omega)
  obtain ⟨ln, hn⟩ : ∃ ln, (k :: t : List Int).length = ln := ⟨_, rfl⟩
  have hn1 : 1 ≤ ln := by rw [← hn]; simp
  have hn0 : ((ln : Int) == 0) = false := by simp; omega
  have hn00 : ln ≠ 0 := by omega
  have hdec : DecIs (k :: t) zeroM 8 := by
    show (match rowL k with | none => (8 : Int) = 8 ∧ zeroM = zeroM | some js => _)
    rw [hr]
    exact ⟨rfl, rfl⟩
  obtain ⟨w1, hw1⟩ : ∃ w1, w1 = w.alloc (.cells #[.int .i64 0, .int .u32 0, .int .u32 0, .int .u32 0, .int .u32 0, .int .u32 0, .string ⟨#[]⟩, .string ⟨#[]⟩, .bool false, .slice none 0 0] 25) := ⟨_, rfl⟩
  have hz1 : w1.heap.size = w.heap.size + 1 := by rw [hw1]; simp
  obtain ⟨w2, hw2⟩ : ∃ w2, w2 = w1.alloc (.cells #[.int .i64 k, .int .u32 0, .int .u32 0, .int .u32 0, .int .u32 0, .int .u32 0, .string ⟨#[]⟩, .string ⟨#[]⟩, .bool false, .slice none 0 0] 25) := ⟨_, rfl⟩
  have O1 : Only [] w w1 := by rw [hw1]; exact (Only.refl _ _).alloc _
  have P12 : Only [] w1 w2 := by rw [hw2]; exact (Only.refl _ _).alloc _
  have O2 : Only [] w w2 := O1.trans P12 (by simp)
  have Z2 : Blk w2 w.heap.size 25 zeroM.cells := by rw [hw2, hw1]; exact (Blk.new w _ _).alloc _
  have FA : Calls Tryz.prog 17 #[.agg #[.int .i64 k, .int .u32 0, .int .u32 0, .int .u32 0, .int .u32 0, .int .u32 0, .string ⟨#[]⟩, .string ⟨#[]⟩, .bool false, .slice none 0 0]] w2 (FieldsPost w2 (firstM k)) := fields_any (firstM k) w2 (first_ok _ _) (Nat.zero_le _) (Nat.zero_le _)
  unfold FieldsPost at FA
  rw [show rowL (firstM k).kind = none from hr] at FA
  rw [hn] at hlc ⊢
  replace hn := hide hn
  replace hr := hide hr
  replace hdec := hide hdec
  go_enter Tryz.func13, Tryz.ntmps13
  go_wp2_with fail
  rw [← hw1, ← hw2]
  replace hw1 := hide hw1
  replace hw2 := hide hw2
  replace hz1 := hide hz1
  go_call FA as e w3 ⟨P3, rfl⟩
  clear FA
  have O3 : Only [] w w3 := O2.trans P3 (by simp)
  have Z3 := Z2.only P3 (by simp)
  have z0 : w3.cell? ⟨w.heap.size, 0, none⟩ = some (.int .i64 0) := Z3.cell 0
  have y0 := Z3.frozen 0
  have z1 : w3.cell? ⟨w.heap.size, 1, none⟩ = some (.int .u32 0) := Z3.cell 1
  have y1 := Z3.frozen 1
  have z2 : w3.cell? ⟨w.heap.size, 2, none⟩ = some (.int .u32 0) := Z3.cell 2
  have y2 := Z3.frozen 2
  have z3 : w3.cell? ⟨w.heap.size, 3, none⟩ = some (.int .u32 0) := Z3.cell 3
  have y3 := Z3.frozen 3
  have z4 : w3.cell? ⟨w.heap.size, 4, none⟩ = some (.int .u32 0) := Z3.cell 4
  have y4 := Z3.frozen 4
  have z5 : w3.cell? ⟨w.heap.size, 5, none⟩ = some (.int .u32 0) := Z3.cell 5
  have y5 := Z3.frozen 5
  have z6 : w3.cell? ⟨w.heap.size, 6, none⟩ = some (.string ⟨#[]⟩) := Z3.cell 6
  have y6 := Z3.frozen 6
  have z7 : w3.cell? ⟨w.heap.size, 7, none⟩ = some (.string ⟨#[]⟩) := Z3.cell 7
  have y7 := Z3.frozen 7
  have z8 : w3.cell? ⟨w.heap.size, 8, none⟩ = some (.bool false) := Z3.cell 8
  have y8 := Z3.frozen 8
  have z9 : w3.cell? ⟨w.heap.size, 9, none⟩ = some (.slice none 0 0) := Z3.cell 9
  have y9 := Z3.frozen 9
  go_wp2_with fail
  (try simp only [Exit.inBlock, Exit.then])
  refine ret_dec (g := w.heap.size) (m := zeroM) rfl (by rfl) (by rfl) (zsetB Z3) ?_
  exact ⟨zsetO (Nat.le_refl _) O3, zeroM, 8, rfl, zero_ok _, hdec.out⟩
theorem rdec_any (A : Option Addr) (l : List Int) (c : Nat) (w : World) (h : Rd w A l) (hl : InB l) (hln : l.length ≤ 140737488355000) (hlc : l.length ≤ c) (hlm : c ≤ maxLen) :
    Calls Tryz.prog 13 #[.slice A l.length c] w (RDecPost w l) := by
  cases l with
  | nil => exact rdec_nil A c w
  | cons k t =>
    by_cases h1 : k = 1
    · subst h1; exact rdec_k1 A t c w h hl hln hlc hlm
    by_cases h80 : k = 80
    · subst h80; exact rdec_k80 A t c w h hl hln hlc hlm
    by_cases h81 : k = 81
    · subst h81; exact rdec_k81 A t c w h hl hln hlc hlm
    by_cases h82 : k = 82
    · subst h82; exact rdec_k82 A t c w h hl hln hlc hlm
    by_cases h90 : k = 90
    · subst h90; exact rdec_k90 A t c w h hl hln hlc hlm
    by_cases h91 : k = 91
    · subst h91; exact rdec_k91 A t c w h hl hln hlc hlm
    by_cases h92 : k = 92
    · subst h92; exact rdec_k92 A t c w h hl hln hlc hlm
    by_cases h93 : k = 93
    · subst h93; exact rdec_k93 A t c w h hl hln hlc hlm
    by_cases h94 : k = 94
    · subst h94; exact rdec_k94 A t c w h hl hln hlc hlm
    by_cases h95 : k = 95
    · subst h95; exact rdec_k95 A t c w h hl hln hlc hlm
    by_cases h96 : k = 96
    · subst h96; exact rdec_k96 A t c w h hl hln hlc hlm
    by_cases h97 : k = 97
    · subst h97; exact rdec_k97 A t c w h hl hln hlc hlm
    by_cases h99 : k = 99
    · subst h99; exact rdec_k99 A t c w h hl hln hlc hlm
    by_cases h100 : k = 100
    · subst h100; exact rdec_k100 A t c w h hl hln hlc hlm
    by_cases h98 : k = 98
    · subst h98; exact rdec_k98 A t c w h hl hln hlc hlm
    exact rdec_none A k t c w h hl hlc (by unfold rowL; simp [*])
end Go.Proofs.YtdmjabfjkkjhbaaGreatDoor
