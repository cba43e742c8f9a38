/- Layer 1: the writer, continued: names; for every field whose names may be, no condition. -/
import Derived.Test.YtdmjabfjkkjhbaaDoorOctE
import Derived.Test.YtdmjabfjkkjhbaaDoorShelf
import Derived.Lib.ConvBytes
namespace Go.Proofs.YtdmjabfjkkjhbaaDoor
set_option linter.all false
open Go.RowKit

def joinU (l : List ByteArray) : List UInt8 := Lib.join (l.map (·.data.toList)) [44]
def u8i (l : List UInt8) : List Int := l.map fun c => (c.toNat : Int)
theorem joinU_le (l : List ByteArray) (hs : ∀ s ∈ l, s.size ≤ 64) : (joinU l).length ≤ l.length * 65 := by
  unfold joinU Lib.join
  induction l with
  | nil => simp
  | cons a r ih =>
    have ha : a.data.toList.length ≤ 64 := by simpa using hs a List.mem_cons_self
    have hr := ih (fun s h => hs s (List.mem_cons_of_mem _ h))
    cases r with
    | nil => simp at ha ⊢; omega
    | cons b r =>
      simp only [List.map_cons, List.intercalate, List.intersperse, List.flatten_cons, List.length_append, List.length_cons] at hr ⊢
      simp at ha hr ⊢
      omega
theorem join_any (A : Option Addr) (l : List ByteArray) (cap : Nat) (w : World) (h : RdS w A l) (hc : l.length ≤ cap) (h64 : l.length ≤ 64) (hs : ∀ s ∈ l, s.size ≤ 64) :
    Calls Tryd.prog 79 #[.slice A l.length cap, .string ⟨#[44]⟩] w fun e w' => e = .returned (.string ⟨(joinU l).toArray⟩) ∧ Only [] w w' := by
  have hj := joinU_le l hs
  by_cases h0 : 0 < l.length
  · obtain ⟨b, off, rfl, hb, hcell⟩ := h h0
    refine (Tryd.strings_Join b off cap l ⟨#[44]⟩ w (fun j x hx => hcell j x hx) hb (by omega) hc ?_).mono fun e w' ⟨h1, h2⟩ => ⟨h1, only_of_below h2⟩
    show (joinU l).length ≤ _
    omega
  · obtain rfl : l = [] := List.eq_nil_of_length_eq_zero (by omega)
    refine (Tryd.strings_Join_none A cap ⟨#[44]⟩ w).mono fun e w' ⟨h1, h2⟩ => ⟨h1, by rw [h2]; exact Only.refl _ _⟩

theorem bytesW (w : World) (e : TypeId) (S : List UInt8) :
    Only [] w (Lib.bytesWorld w e ⟨S.toArray⟩) ∧ RdG (.int .u8) (Lib.bytesWorld w e ⟨S.toArray⟩) (some ⟨w.heap.size, 0, none⟩) (u8i S) ∧ (Lib.bytesWorld w e ⟨S.toArray⟩).heap.size = w.heap.size + 1 := by
  refine ⟨⟨rfl, rfl, rfl, ?_, fun k hk _ => Lib.bytesWorld_at_old _ _ _ k hk⟩, fun _ => ⟨w.heap.size, 0, rfl, ?_, fun i x hx => ?_⟩, Lib.bytesWorld_size _ _ _⟩
  · rw [Lib.bytesWorld_size]; omega
  · rw [Lib.bytesWorld_size]; omega
  · have hi : i < S.length := by
      have := (List.getElem?_eq_some_iff.mp hx).1
      simpa [u8i] using this
    have hx' : (S[i].toNat : Int) = x := by simpa [u8i, hi] using hx
    have h := Lib.bytesWorld_cell w e ⟨S.toArray⟩ i (by simpa [ByteArray.size] using hi)
    rw [Nat.zero_add, h]
    simp [List.getD, hi, hx']
theorem run_conv_bytes (w : World) (S : List UInt8) : ∃ c w', (Go.Sem.run Tryd.prog (convert 9 23 (.string ⟨S.toArray⟩)) w) = .ok (.slice (some ⟨w.heap.size, 0, none⟩) S.length c) w' ∧ S.length ≤ c ∧ (S.length ≤ maxLen → c ≤ maxLen) ∧ Only [] w w' ∧ RdG (.int .u8) w' (some ⟨w.heap.size, 0, none⟩) (u8i S) ∧ w'.heap.size = w.heap.size + 1 := by
  have h := Lib.run_convert_string_bytes (P := Tryd.prog) w 9 23 5 ⟨S.toArray⟩ (u := .string) (by kernel_rfl) (by kernel_rfl) (by kernel_rfl)
  obtain ⟨a, b, c⟩ := bytesW w 5 S
  refine ⟨_, _, h, ?_, ?_, a, b, c⟩
  · have := grownCap_ge w S.length 0 5
    simpa [ByteArray.size] using this
  · intro hm
    have := grownCap_le_maxLen w S.length 0 5 hm
    simpa [ByteArray.size] using this

set_option maxRecDepth 100000 in
set_option maxHeartbeats 3200000 in
theorem wNames_any (f : FD) (g base : Nat) (v : Value) (l : List Int) (w : World) (h : WrV w g base v l) (hf : f.ok w) (h64 : f.list.length ≤ 64) (hs : ∀ s ∈ f.list, s.size ≤ 64) (hl : l.length ≤ 140737488340000) :
    Calls Tryd.prog 51 #[.pointer (some ⟨g, 0, none⟩), f.val] w (WPost w g base v (l ++ (four (joinU f.list).length ++ u8i (joinU f.list)))) := by
  have hj := joinU_le f.list hs
  obtain ⟨w1, hw1⟩ : ∃ w1, w1 = w.alloc (.cells #[.int .i64 f.kind, .int .u32 f.n, .slice f.tA f.text.length f.tc, .slice f.lA f.list.length f.lc] 35) := ⟨_, rfl⟩
  have P1 : Only [] w w1 := by rw [hw1]; exact (Only.refl _ _).alloc _
  have K : Blk w1 w.heap.size 35 [.int .i64 f.kind, .int .u32 f.n, .slice f.tA f.text.length f.tc, .slice f.lA f.list.length f.lc] := by rw [hw1]; exact Blk.new w _ _
  have c3 : w1.cell? ⟨w.heap.size, 3, none⟩ = some (.slice f.lA f.list.length f.lc) := K.cell 3
  have J := join_any f.lA f.list f.lc w1 (hf.list.only P1) hf.lle h64 hs
  obtain ⟨S, hS⟩ : ∃ S, S = joinU f.list := ⟨_, rfl⟩
  rw [← hS] at J hj ⊢
  have hSl : S.length ≤ 4160 := by omega
  replace hS := hide hS
  unfold FD.val
  go_enter Tryd.func51, Tryd.ntmps51
  go_wp2_with fail
  rw [← hw1]
  replace hw1 := hide hw1
  go_wp2_with fail
  go_call J as e w2 ⟨rfl, P2⟩
  clear J c3 K
  obtain ⟨cc, w3, hcv, hcc, hcm, P3, RS, hs3⟩ := run_conv_bytes w2 S
  have P13 : Only [] w w3 := (P1.trans P2 (by simp)).trans P3 (by simp)
  have R3 := h.only P13 (by simp) (by simp)
  have hb2 : w2.heap.size ≥ w1.heap.size := P2.size
  have hb1 : w1.heap.size ≥ w.heap.size := P1.size
  have hgl := h.blk.lt
  have hSm : S.length ≤ maxLen := by unfold maxLen; omega
  have hu : (u8i S).length = S.length := by simp [u8i]
  have T := wText_any ⟨0, 0, some ⟨w2.heap.size, 0, none⟩, cc, u8i S, none, 0, []⟩ g base v l w3 R3
    ⟨RS, RdG.nil, by simp only [hu]; exact hcc, hcm hSm, by simp, by simp, by simp⟩
    ⟨fun a ha _ => by injection ha with ha; subst ha; exact ⟨by simp only; omega, fun hv => by have := h.own.block _ hv; simp only at this; omega⟩, fun a ha => by cases ha⟩
    (by simp only [hu]; omega) (by simp only [hu]; omega)
  unfold FD.val at T
  simp only [hu, List.length_nil] at T
  go_wp2_with fail
  go_call T as e w4 ⟨rfl, v4, R4, M4⟩
  go_wp2_with fail
  go_end0
  exact ⟨rfl, v4, R4, M4.from P13⟩
end Go.Proofs.YtdmjabfjkkjhbaaDoor
