/- The document's answer for layer 1: the same texts; no condition. -/
import Derived.Test.YtdmjabfjkkjhbaaDoorRefD
import Derived.Lib.SlicesS
namespace Go.Proofs.YtdmjabfjkkjhbaaDoor
set_option linter.all false
open Go.RowKit

def eqS (l m : List ByteArray) : Bool := decide (l = m)

set_option maxHeartbeats 1600000 in
theorem strings_any (w : World) (A B : Option Addr) (l m : List ByteArray) (c d : Nat) (hA : RdS w A l) (hB : RdS w B m) (hl : l.length ≤ maxLen) (hm : m.length ≤ maxLen) :
    Calls Tryd.prog 33 #[.slice A l.length c, .slice B m.length d] w fun e w' => e = .returned (.bool (eqS l m)) ∧ Only [] w w' := by
  unfold maxLen at hl hm
  by_cases hn : l.length = m.length
  · obtain ⟨n, hln⟩ : ∃ n, n = l.length := ⟨_, rfl⟩
    have hmn : n = m.length := by omega
    rw [← hn, ← hln]
    rw [← hln] at hl
    have HL := hide hln
    have HM := hide hmn
    clear hm hn hln hmn
    go_enter Tryd.func33, Tryd.ntmps33
    go_wp2
    go_loopw [13] (fun i wr => ∃ k : Nat, k ≤ n ∧ i = .int .i64 k ∧ l.take k = m.take k ∧ Only [] w wr) (fun i _ => n - (intOf i).toNat)
    case atStart => exact ⟨0, by omega, rfl, rfl, Only.refl _ _⟩
    case round =>
      obtain ⟨k, hk, rfl, ht, O⟩ := hrel
      have hln := HL.out
      have hmn := HM.out
      have HT := hide ht
      clear ht
      by_cases hlt : k < n
      · obtain ⟨b, off, rfl, hb, hc⟩ := (hA.only O) (by omega)
        obtain ⟨b', off', rfl, hb', hc'⟩ := (hB.only O) (by omega)
        have x1 : l[k]? = some (l[k]'(by omega)) := List.getElem?_eq_getElem (by omega)
        have y1 : m[k]? = some (m[k]'(by omega)) := List.getElem?_eq_getElem (by omega)
        obtain ⟨x, hx⟩ : ∃ x, l[k]'(by omega) = x := ⟨_, rfl⟩
        obtain ⟨y, hy⟩ : ∃ y, m[k]'(by omega) = y := ⟨_, rfl⟩
        rw [hx] at x1
        rw [hy] at y1
        have hc := hc _ _ x1
        have hc' := hc' _ _ y1
        have tl : l.take (k + 1) = l.take k ++ [x] := by rw [List.take_add_one, x1]; rfl
        have tm : m.take (k + 1) = m.take k ++ [y] := by rw [List.take_add_one, y1]; rfl
        have i0 : (k : Int) < (n : Int) := by omega
        have i1 : (0 : Int) ≤ (k : Int) := by omega
        have TL := hide tl
        have TM := hide tm
        have X1 := hide x1
        have Y1 := hide y1
        clear hln hmn x1 y1 hx hy tl tm
        by_cases hxy : x = y
        · subst hxy
          go_wp2
          go_quiet (fail)
          go_wp2
          go_roundw
          case rel => exact ⟨k + 1, by omega, by go_num, by rw [TL.out, TM.out, HT.out], O.drewN _⟩
          case measure => simp [intOf]; omega
        · have e1 : (x.toList == y.toList) = false := (Lib.bytes_beq_false_iff x y).2 hxy
          have hf : eqS l m = false := decide_eq_false (fun e => hxy (by have h1 := X1.out; have h2 := Y1.out; rw [e, h2] at h1; injection h1 with h1; exact h1.symm))
          have HF := hide hf
          clear hf hxy
          go_wp2
          go_quiet (fail)
          go_wp2
          go_ret
          exact ⟨ret_bool HF.out.symm, O.drewN _⟩
      · have hf : eqS l m = true := decide_eq_true (by have h1 := HT.out; rw [List.take_of_length_le (by omega), List.take_of_length_le (by omega)] at h1; exact h1)
        have HF := hide hf
        clear hf hln hmn
        go_wp2
        go_ret
        exact ⟨ret_bool HF.out.symm, O⟩
  · have hf : eqS l m = false := decide_eq_false (fun e => hn (by rw [e]))
    rw [hf]; clear hf
    have e1 : ((l.length : Int) == (m.length : Int)) = false := beq_eq_false_iff_ne.2 (by omega)
    have e2 : ((l.length : Int) != (m.length : Int)) = true := by simp; omega
    obtain ⟨a, ha⟩ : ∃ a, l.length = a := ⟨_, rfl⟩
    obtain ⟨b, hb⟩ : ∃ b, m.length = b := ⟨_, rfl⟩
    rw [ha, hb] at e1 e2 ⊢
    clear ha hb
    go_enter Tryd.func33, Tryd.ntmps33
    go_wp2
    go_ret
    exact ⟨rfl, Only.refl _ _⟩
end Go.Proofs.YtdmjabfjkkjhbaaDoor
