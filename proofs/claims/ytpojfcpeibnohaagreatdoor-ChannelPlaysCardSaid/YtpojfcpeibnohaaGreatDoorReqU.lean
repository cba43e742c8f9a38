/- The document's answer for layer 4: Encode; no condition · Layer 4: bytes raised by one; what is encoded of the same; no condition. -/
import Derived.Test.YtpojfcpeibnohaaGreatDoorReqSC
import Derived.Test.YtpojfcpeibnohaaGreatDoorReqRA
import Derived.Test.YtpojfcpeibnohaaGreatDoorRefM
namespace Go.Proofs.YtpojfcpeibnohaaGreatDoor
set_option linter.all false
open Go.RowKit

set_option maxRecDepth 100000 in
set_option maxHeartbeats 3200000 in
theorem refREncode_any (m : RQ) (w : World) (hm : m.ok w) (hs : m.text.size ≤ 140737488355328) (hv : m.value.size ≤ 140737488355328) (hl : m.lang.size ≤ 140737488355328) : Calls Tryz.prog 52 #[m.val] w (EncPost w m) := by
  obtain ⟨w1, hw1⟩ : ∃ w1, w1 = w.alloc (.cells #[.int .i64 m.kind, .string m.text, .string m.value, .string m.lang, .int .u32 m.cols, .int .u32 m.rows, .int .u32 m.width, .int .u32 m.height, .slice m.mA m.modes.length m.mc, .bool m.on, .int .u32 m.code] 39) := ⟨_, rfl⟩
  have P1 : Only [] w w1 := by rw [hw1]; exact (Only.refl _ _).alloc _
  have K1 : Blk w1 w.heap.size 39 m.cells := by rw [hw1]; exact Blk.new w _ _
  unfold RQ.val
  by_cases hk : 1 ≤ m.kind ∧ m.kind ≤ 10
  · obtain ⟨k, hkk⟩ := Int.eq_ofNat_of_zero_le (show 0 ≤ m.kind by omega)
    have h1 : 1 ≤ k := by omega
    have h2 : k ≤ 10 := by omega
    have NA := refRName_any k h1 h2 w1
    rw [← hkk] at NA
    have FA := reffault_any m w1 k h1 h2 hkk (hm.only P1)
    have FI := fun w' ok => refFields_any m w' k h1 h2 hkk ok hs hv hl
    have hen : askR m k = 0 → encR m = writeP (partsR m k) := encR_go h1 h2 hkk
    have hea : askR m k ≠ 0 → encR m = (askR m k, []) := encR_ask h1 h2 hkk
    have hnk : (encR m).1 = 0 → encName m = rname k := encName_ok hkk
    have hpl : (partsR m k).length ≤ 10 := by rcases k10 h1 h2 with rfl | rfl | rfl | rfl | rfl | rfl | rfl | rfl | rfl | rfl <;> simp [partsR]
    obtain ⟨nm, hnm⟩ : ∃ nm, rname k = nm := ⟨_, rfl⟩
    obtain ⟨E0, hE0⟩ : ∃ E, askR m k = E := ⟨_, rfl⟩
    rw [hE0] at hen hea FA
    rw [hnm] at NA hnk
    unfold RQ.val at FA FI
    replace hen := hide hen
    replace hea := hide hea
    replace hnk := hide hnk
    replace hE0 := hide hE0
    replace hkk := hide hkk
    replace hnm := hide hnm
    replace hk := hide hk
    replace FI := hide FI
    replace hpl := hide hpl
    have c0 : w1.cell? ⟨w.heap.size, 0, none⟩ = some (.int .i64 m.kind) := K1.cell 0
    have c1 : w1.cell? ⟨w.heap.size, 1, none⟩ = some (.string m.text) := K1.cell 1
    have c2 : w1.cell? ⟨w.heap.size, 2, none⟩ = some (.string m.value) := K1.cell 2
    have c3 : w1.cell? ⟨w.heap.size, 3, none⟩ = some (.string m.lang) := K1.cell 3
    have c4 : w1.cell? ⟨w.heap.size, 4, none⟩ = some (.int .u32 m.cols) := K1.cell 4
    have c5 : w1.cell? ⟨w.heap.size, 5, none⟩ = some (.int .u32 m.rows) := K1.cell 5
    have c6 : w1.cell? ⟨w.heap.size, 6, none⟩ = some (.int .u32 m.width) := K1.cell 6
    have c7 : w1.cell? ⟨w.heap.size, 7, none⟩ = some (.int .u32 m.height) := K1.cell 7
    have c8 : w1.cell? ⟨w.heap.size, 8, none⟩ = some (.slice m.mA m.modes.length m.mc) := K1.cell 8
    have c9 : w1.cell? ⟨w.heap.size, 9, none⟩ = some (.bool m.on) := K1.cell 9
    have c10 : w1.cell? ⟨w.heap.size, 10, none⟩ = some (.int .u32 m.code) := K1.cell 10
    go_enter Tryz.func52, Tryz.ntmps52
    go_wp2_with fail
    rw [← hw1]
    replace hw1 := hide hw1
    go_call NA as e w2 ⟨rfl, rfl⟩
    clear NA
    go_wp2_with fail
    go_call FA as e w3 ⟨rfl, P3⟩
    clear FA
    clear c0 c1 c2 c3 c4 c5 c6 c7 c8 c9 c10
    have K3 := K1.only P3 (by simp)
    have O3 : Only [] w w3 := P1.trans P3 (by simp)
    by_cases hE : E0 = 0
    · have hew := hen.out hE
      replace hew := hide hew
      have FA := FI.out w3 (hm.only O3)
      subst hE
      have c0 : w3.cell? ⟨w.heap.size, 0, none⟩ = some (.int .i64 m.kind) := K3.cell 0
      have c1 : w3.cell? ⟨w.heap.size, 1, none⟩ = some (.string m.text) := K3.cell 1
      have c2 : w3.cell? ⟨w.heap.size, 2, none⟩ = some (.string m.value) := K3.cell 2
      have c3 : w3.cell? ⟨w.heap.size, 3, none⟩ = some (.string m.lang) := K3.cell 3
      have c4 : w3.cell? ⟨w.heap.size, 4, none⟩ = some (.int .u32 m.cols) := K3.cell 4
      have c5 : w3.cell? ⟨w.heap.size, 5, none⟩ = some (.int .u32 m.rows) := K3.cell 5
      have c6 : w3.cell? ⟨w.heap.size, 6, none⟩ = some (.int .u32 m.width) := K3.cell 6
      have c7 : w3.cell? ⟨w.heap.size, 7, none⟩ = some (.int .u32 m.height) := K3.cell 7
      have c8 : w3.cell? ⟨w.heap.size, 8, none⟩ = some (.slice m.mA m.modes.length m.mc) := K3.cell 8
      have c9 : w3.cell? ⟨w.heap.size, 9, none⟩ = some (.bool m.on) := K3.cell 9
      have c10 : w3.cell? ⟨w.heap.size, 10, none⟩ = some (.int .u32 m.code) := K3.cell 10
      go_wp2_with fail
      go_call FA as e w4 ⟨P4, v, fs, rfl, V4, hp, M4, N4⟩
      clear FA
      have O4 : Only [] w w4 := O3.trans P4 (by simp)
      obtain ⟨A, cap, rfl, hc, hcm, _⟩ := V4.form
      have RF := V4.rdF (fun f hf => ⟨(M4 f hf).1, N4 f hf⟩)
      have hfl : fs.length ≤ 10 := by
        have := congrArg List.length hp
        rw [List.length_map] at this
        have := hpl.out
        omega
      have WR := refWrite_any w4 A fs cap RF (by omega)
      rw [hp, ← hew.out] at WR
      obtain ⟨E, hE⟩ : ∃ E, (encR m).1 = E := ⟨_, rfl⟩
      obtain ⟨l, hl2⟩ : ∃ l, (encR m).2 = l := ⟨_, rfl⟩
      have hpair : encR m = (E, l) := by rw [← hE, ← hl2]
      rw [hpair] at WR
      have zo := O4.size
      replace hpair := hide hpair
      replace hE := hide hE
      replace hl2 := hide hl2
      replace hp := hide hp
      clear M4 N4
      clear c0 c1 c2 c3 c4 c5 c6 c7 c8 c9 c10
      go_wp2_with fail
      go_call WR as e w9 ⟨P9, v9, rfl, V9⟩
      clear WR
      have Q9 : Only [] w w9 := O4.trans P9 (by simp)
      (try dsimp only)
      by_cases hz : E = 0
      · have hfin : EncPost w m (.returned (.tuple #[.string nm, v9, .int .i64 0])) w9 := by
          unfold EncPost
          rw [hE.out, hl2.out, hnk.out (by rw [hE.out]; exact hz), hz]
          exact ⟨Q9, v9, rfl, V9.mono zo⟩
        subst hz
        replace hfin := hide hfin
        go_wp2_with fail
        go_ret3
        exact hfin.out
      · have hzb : (E != 0) = true := by simpa using hz
        have hl0 : l = [] := by rw [← hl2.out]; exact encR_bad (by rw [hE.out]; exact hz)
        have hfin : EncPost w m (.returned (.tuple #[.string ⟨#[]⟩, .slice none 0 0, .int .i64 E])) w9 := encPost_bad w w9 m E (by rw [hpair.out, hl0]) hz Q9
        replace hfin := hide hfin
        replace hl0 := hide hl0
        replace hz := hide hz
        go_wp2_with fail
        go_ret3
        exact hfin.out
    · have hEb : (E0 != 0) = true := by simpa using hE
      have hfin : EncPost w m (.returned (.tuple #[.string ⟨#[]⟩, .slice none 0 0, .int .i64 E0])) w3 := encPost_bad w w3 m E0 (hea.out hE) hE O3
      replace hfin := hide hfin
      replace hE := hide hE
      go_wp2_with fail
      go_ret3
      exact hfin.out
  · have NA := refRName_none m.kind hk w1
    have hfin : EncPost w m (.returned (.tuple #[.string ⟨#[]⟩, .slice none 0 0, .int .i64 8])) w1 := encPost_bad w w1 m 8 (encR_none hk) (by decide) P1
    replace hfin := hide hfin
    replace hk := hide hk
    have c0 : w1.cell? ⟨w.heap.size, 0, none⟩ = some (.int .i64 m.kind) := K1.cell 0
    go_enter Tryz.func52, Tryz.ntmps52
    go_wp2_with fail
    rw [← hw1]
    replace hw1 := hide hw1
    go_call NA as e w2 ⟨rfl, rfl⟩
    go_wp2_with fail
    go_ret3
    exact hfin.out
end Go.Proofs.YtpojfcpeibnohaaGreatDoor

namespace Go.Proofs.YtpojfcpeibnohaaGreatDoor
set_option linter.all false
open Go.RowKit

theorem OwnB.wrote {w : World} {base g n cap : Nat} {l : List Int} (h : OwnB w base (.slice (some ⟨g, 0, none⟩) n cap) l) (i : Nat) (hi : i < l.length) (x : Int) : OwnB (w.setCell ⟨g, i, none⟩ (.int .u8 x)) base (.slice (some ⟨g, 0, none⟩) n cap) (l.set i x) := by
  rcases h.2 with ⟨h', _⟩ | ⟨g', cap', cur, h', hb, hg, hn, hc, hs, ht⟩
  · simp at h'
  · simp only [Value.slice.injEq, Option.some.injEq, Addr.mk.injEq, and_true, true_and] at h'
    obtain ⟨rfl, rfl, rfl⟩ := h'
    refine ⟨by simp [u8s], .inr ⟨g, cap, cur.set! i (.int .u8 x), by simp, hb, ?_, by simpa using hn, hc, by simpa using hs, ?_⟩⟩
    · simp [World.setCell, Array.getElem?_modify, hg]
    · simp at ht hs ⊢
      rw [List.take_set, ht]
      simp [u8s, List.map_set]
theorem OwnB.frozenAt {w : World} {base g n cap : Nat} {l : List Int} (h : OwnB w base (.slice (some ⟨g, 0, none⟩) n cap) l) (j : Nat) : w.frozen? ⟨g, j, none⟩ = false := by
  rcases h.2 with ⟨h', _⟩ | ⟨g', cap', cur, h', hb, hg, _⟩
  · simp at h'
  · simp only [Value.slice.injEq, Option.some.injEq, Addr.mk.injEq, and_true, true_and] at h'
    obtain ⟨rfl, rfl, rfl⟩ := h'
    simp [World.frozen?, hg]
/-- The bytes of a slice of the call's own, each raised by one. -/
def RaiseRel (wc : World) (base n : Nat) (v : Value) (i : Value) (wp : World) : Prop := ∃ (k : Nat) (l : List Int), k ≤ n ∧ i = .int .i64 k ∧ l.length = n ∧ OwnB wp base v l ∧ Only v.ownBlock.toList wc wp
theorem encR_same {a b : RQ} (h : SameR a b) : encR b = encR a := by
  unfold encR
  rw [h.kind]
  by_cases hk : 1 ≤ a.kind ∧ a.kind ≤ 10
  · rw [if_pos hk, if_pos hk, askR_same h _ (by omega) (by omega), partsR_same h _ (by omega) (by omega)]
  · rw [if_neg hk, if_neg hk]
theorem encName_same {a b : RQ} (h : SameR a b) : encName b = encName a := by
  unfold encName
  rw [encR_same h, h.kind]
end Go.Proofs.YtpojfcpeibnohaaGreatDoor
