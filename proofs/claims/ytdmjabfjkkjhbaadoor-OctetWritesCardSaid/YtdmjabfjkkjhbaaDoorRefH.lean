/- The document's answer for layer 1: are fields more than are looked at; no condition. -/
import Derived.Test.YtdmjabfjkkjhbaaDoorOctS
namespace Go.Proofs.YtdmjabfjkkjhbaaDoor
set_option linter.all false
open Go.RowKit

/-- How much there is to fields. -/
def bulk (fs : List FD) : Nat := (fs.map fun f => min f.text.length 100000 + min f.list.length 1000).sum
theorem bulk_snoc (fs : List FD) (f : FD) : bulk (fs ++ [f]) = bulk fs + (min f.text.length 100000 + min f.list.length 1000) := by
  unfold bulk
  simp

set_option maxRecDepth 100000 in
set_option maxHeartbeats 3200000 in
theorem great_any (A : Option Addr) (fs : List FD) (c : Nat) (w : World) (h : RdF w A fs) (hl : fs.length ≤ maxLen) :
    Calls Tryd.prog 16 #[.slice A fs.length c] w fun e w' => Only [] w w' ∧ ∃ b, e = .returned (.bool b) ∧ (b = false → fs.length ≤ 100 ∧ bulk fs ≤ 120000) := by
  unfold maxLen at hl
  obtain ⟨n, hn⟩ : ∃ n, n = fs.length := ⟨_, rfl⟩
  rw [← hn] at hl ⊢
  replace hn := hide hn
  by_cases h100 : 100 < n
  · have h1 : (100 : Int) < (n : Int) := by omega
    go_enter Tryd.func16, Tryd.ntmps16
    go_wp2
    go_ret
    exact ⟨Only.refl _ _, true, rfl, fun h => by cases h⟩
  have h1 : ¬ (100 : Int) < (n : Int) := by omega
  go_enter Tryd.func16, Tryd.ntmps16
  go_wp2
  go_loopw [11, 3] (fun i s wr => ∃ k : Nat, k ≤ n ∧ i = .int .i64 k ∧ s = .int .i64 (bulk (fs.take k) : Nat) ∧ bulk (fs.take k) ≤ 120000 ∧ Only [] w wr) (fun i _ _ => n - (intOf i).toNat)
  case atStart => exact ⟨0, by omega, rfl, rfl, by simp [bulk], Only.refl _ _⟩
  case round =>
    obtain ⟨wo, rfl⟩ : ∃ wo : World, wo = wr := ⟨_, rfl⟩
    obtain ⟨k, hk, rfl, rfl, hb, O⟩ := hrel
    by_cases hlt : k < n
    · obtain ⟨f, hf⟩ : ∃ f, fs[k]? = some f := ⟨_, List.getElem?_eq_getElem (by have := hn.out; omega)⟩
      obtain ⟨b, off, rfl, hb2, hc⟩ := (h.only O).cells (by have := hn.out; omega)
      obtain ⟨c0, c1, c2, c3⟩ := hc k f hf
      have hok := (h.ok f (List.mem_of_getElem? hf)).1
      have t1 := hok.tle
      have t2 := hok.tmax
      have t3 := hok.lle
      have t4 := hok.lmax
      unfold maxLen at t2 t4
      have hs := bulk_snoc (fs.take k) f
      rw [← take_snocG hf] at hs
      obtain ⟨kd, nn, tA, tc, tx, lA, lc, ls⟩ := f
      dsimp only at c0 c1 c2 c3 t1 t2 t3 t4 hs
      obtain ⟨B, hB⟩ : ∃ B, bulk (fs.take k) = B := ⟨_, rfl⟩
      rw [hB] at hs hb ⊢
      obtain ⟨a, ha⟩ : ∃ a, tx.length = a := ⟨_, rfl⟩
      obtain ⟨d, hd⟩ : ∃ d, ls.length = d := ⟨_, rfl⟩
      rw [ha, hd] at hs
      rw [ha] at c2
      rw [hd] at c3
      replace hB := hide hB
      replace ha := hide ha
      replace hd := hide hd
      replace hf := hide hf
      replace hs := hide hs
      clear hc hok
      go_wp2
      · go_ret
        exact ⟨O.alloc _, true, rfl, fun h => by cases h⟩
      · rename_i hle
        go_roundw
        case rel =>
          refine ⟨k + 1, by omega, by go_num, ?_, ?_, O.alloc _⟩
          · rw [hs.out]
            congr 1
            omega
          · rw [hs.out]
            omega
        case measure => simp [intOf]; omega
    · obtain rfl : k = n := by omega
      have hfin : fs.take k = fs := List.take_of_length_le (by have := hn.out; omega)
      rw [hfin] at hb
      replace hfin := hide hfin
      go_wp2
      go_ret
      exact ⟨O, false, rfl, fun _ => ⟨by omega, hb⟩⟩
end Go.Proofs.YtdmjabfjkkjhbaaDoor
