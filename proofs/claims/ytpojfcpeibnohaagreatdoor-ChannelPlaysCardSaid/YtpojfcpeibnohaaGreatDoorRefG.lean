/- The document's answer for layer 1: the same texts; no condition · The document's answer for layer 1: names with commas between them; no condition · The document's answer for layer 1: names with commas between them, the walk (under way). -/
import Derived.Test.YtpojfcpeibnohaaGreatDoorRefD
import Derived.Lib.SlicesS
import Derived.Lib.AppendStr
namespace Go.Proofs.YtpojfcpeibnohaaGreatDoor
set_option linter.all false
open Go.RowKit

def eqS (l m : List ByteArray) : Bool := decide (l = m)

end Go.Proofs.YtpojfcpeibnohaaGreatDoor

namespace Go.Proofs.YtpojfcpeibnohaaGreatDoor
set_option linter.all false
open Go.RowKit

theorem inter_snoc (sep : List UInt8) (l : List (List UInt8)) (x : List UInt8) : sep.intercalate (l ++ [x]) = if l = [] then x else sep.intercalate l ++ sep ++ x := by
  induction l with
  | nil => simp [List.intercalate]
  | cons a r ih =>
    cases r with
    | nil => simp [List.intercalate]
    | cons b r =>
      rw [if_neg (by simp)] at ih ⊢
      simp only [List.intercalate, List.cons_append, List.intersperse_cons₂, List.flatten_cons, List.append_assoc] at ih ⊢
      rw [ih]
theorem joinU_snoc (l : List ByteArray) (x : ByteArray) : joinU (l ++ [x]) = if l = [] then x.data.toList else joinU l ++ [44] ++ x.data.toList := by
  unfold joinU Lib.join
  rw [List.map_append, List.map_cons, List.map_nil, inter_snoc]
  simp
theorem u8i_app (a b : List UInt8) : u8i (a ++ b) = u8i a ++ u8i b := by simp [u8i]
theorem strCells_u8i (s : ByteArray) : Lib.strCells s = u8s (u8i s.data.toList) := by simp [Lib.strCells, u8s, u8i]
end Go.Proofs.YtpojfcpeibnohaaGreatDoor

namespace Go.Proofs.YtpojfcpeibnohaaGreatDoor
set_option linter.all false
open Go.RowKit

set_option maxRecDepth 100000 in
set_option maxHeartbeats 3200000 in
theorem refJoined_any (A : Option Addr) (l : List ByteArray) (cap : Nat) (w : World) (h : RdS w A l) (h64 : l.length ≤ 64) (hs : ∀ s ∈ l, s.size ≤ 64) :
    Calls Tryz.prog 115 #[.slice A l.length cap] w fun e w' => Only [] w w' ∧ ∃ v, e = .returned v ∧ OwnB w' w.heap.size v (u8i (joinU l)) := by
  obtain ⟨n, hn⟩ : ∃ n, n = l.length := ⟨_, rfl⟩
  rw [← hn] at h64 ⊢
  replace hn := hide hn
  replace hs := hide hs
  go_enter Tryz.func115, Tryz.ntmps115
  go_wp2
  go_loopw [8, 3] (fun i o wr => ∃ (k : Nat) (v : Value), k ≤ n ∧ i = .int .i64 k ∧ v = o ∧ OwnB wr w.heap.size v (u8i (joinU (l.take k))) ∧ Only [] w wr) (fun i _ _ => n - (intOf i).toNat)
  case atStart => exact ⟨0, _, by omega, rfl, rfl, ownB_nil _ _, Only.refl _ _⟩
  case round =>
    obtain ⟨wo, rfl⟩ : ∃ wo : World, wo = wr := ⟨_, rfl⟩
    obtain ⟨k, v, hk, rfl, rfl, V, O⟩ := hrel
    by_cases hlt : k < n
    · obtain ⟨b, off, x, rfl, hb, hx, hc⟩ := (h.only O).at k (by have := hn.out; omega)
      have hxs := hs.out x (List.mem_of_getElem? hx)
      have hlen : (u8i (joinU (l.take k))).length ≤ 4160 := by
        have h1 := joinU_le (l.take k) (fun s hm => hs.out s (List.mem_of_mem_take hm))
        have h2 : (l.take k).length ≤ 64 := by have := hn.out; rw [List.length_take]; omega
        unfold u8i
        rw [List.length_map]
        omega
      have hsn := joinU_snoc (l.take k) x
      rw [← take_snocG hx] at hsn
      obtain ⟨c, hcc⟩ : ∃ c, joinU (l.take k) = c := ⟨_, rfl⟩
      rw [hcc] at V hlen hsn
      by_cases hk0 : k = 0
      · subst hk0
        rw [Nat.add_zero] at hc
        have hs1 : joinU (l.take (0 + 1)) = x.data.toList := by rw [hsn, if_pos (by simp)]
        clear hsn
        have hc0 : c = [] := by rw [← hcc]; rfl
        subst hc0
        replace hs1 := hide hs1
        replace hx := hide hx
        clear hcc
        obtain ⟨i0, hi, hi0, hi1, hi2⟩ := info_parts u8infos
        have z0 := O.size
        go_wp2_with (at_builtin; go_must (refine Lib.wpList_append_own_string _ rfl (.tmp 18) (.tmp 19) 33 9 rfl w.heap.size 5 i0 Tryz.underlying33 Tryz.underlying9 hi hi0 hi1 hi2 v _ _ rfl V x rfl (by simp [u8i, maxLen]; omega) (by simp [u8i]; omega) z0 ?_; intro v8 w8 V8 P8 G8))
        go_roundw
        case rel =>
          refine ⟨0 + 1, v8, by omega, by go_num, rfl, ?_, ?_⟩
          · rw [hs1.out]
            rw [strCells_u8i] at V8
            unfold OwnB
            rw [show (u8i x.data.toList).length = (u8i []).length + x.size by simp [u8i]]
            exact V8
          · have b1 := V.block
            exact O.trans (only_of_grown P8) (fun y hy => .inr (b1 y (by simpa using hy)).1)
        case measure => simp [intOf]; omega
      · have h3 : (l.take k).length = k := by
          have := hn.out
          rw [List.length_take]; omega
        have h4 : ¬ l.take k = [] := fun e => by
          rw [e] at h3
          exact hk0 h3.symm
        rw [if_neg h4] at hsn
        have hk1 : (0 : Int) < (k : Int) := by omega
        have hk2 : 0 < k := by omega
        replace hsn := hide hsn
        replace hx := hide hx
        replace hcc := hide hcc
        have V0 : OwnB (wo.alloc (.cells #[.int .u8 44] 5)) w.heap.size v (u8i c) := V.far ((Only.refl [] wo).alloc _) (fun x hx => by simp at hx)
        have z0 := O.size
        obtain ⟨i0, hi, hi0, hi1, hi2⟩ := info_parts u8infos
        go_wp2_with (at_builtin; first | (refine wpList_app3 rfl (.tmp 15) (.tmp 16) rfl w.heap.size v (u8i c) rfl V0 _ _ [44] 1 rfl rfl (rd_one wo 44) (by simp; omega) (by simp; omega) ?_; intro v9 w9 V9 P9 G9) | (go_must (refine Lib.wpList_append_own_string _ rfl (.tmp 18) (.tmp 19) 33 9 rfl w.heap.size 5 i0 Tryz.underlying33 Tryz.underlying9 hi hi0 hi1 hi2 v9 _ _ rfl V9.out x rfl (by simp [maxLen]; omega) (by simp; omega) (by have := P9.size; simp at this; omega) ?_; intro v8 w8 V8 P8 G8)))
        go_roundw
        case rel =>
          refine ⟨k + 1, v8, by omega, by go_num, rfl, ?_, ?_⟩
          · rw [hsn.out, show u8i (c ++ [44] ++ x.data.toList) = (u8i c ++ [44]) ++ u8i x.data.toList by simp [u8i]]
            rw [strCells_u8i] at V8
            have e : (u8i c ++ [44] ++ u8i x.data.toList).length = (u8i c ++ [44]).length + x.size := by simp [u8i]; omega
            unfold OwnB
            rw [e, show u8s (u8i c ++ [44] ++ u8i x.data.toList) = u8s (u8i c ++ [44]) ++ u8s (u8i x.data.toList) by simp [u8s]]
            exact V8
          · have b1 := V.block
            have b2 := OwnB.block V9.out
            exact ((O.alloc _).trans P9 (fun y hy => .inr (b1 y (by simpa using hy)).1)).trans (only_of_grown P8) (fun y hy => .inr (b2 y (by simpa using hy)).1)
        case measure => simp [intOf]; omega
    · obtain rfl : k = n := by omega
      rw [List.take_of_length_le (by have := hn.out; omega)] at V
      go_wp2
      go_ret
      exact ⟨O, _, rfl, V⟩
end Go.Proofs.YtpojfcpeibnohaaGreatDoor
