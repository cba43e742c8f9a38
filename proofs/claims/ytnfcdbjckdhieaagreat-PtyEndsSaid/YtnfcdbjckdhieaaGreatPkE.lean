/- Layer 12: what goes out of a byte that is written; of bytes; how many fit; for all bytes, settings and columns; no condition · Layer 12: what goes out of a byte that is written; for all bytes, settings and columns; no condition · Layer 12: bytes that are written; how many of them fit; for all bytes, settings and columns; no condition · Layer 12: how many bytes may be written; for all bytes, settings, columns and rooms; no condition · Layer 11: the columns behind a byte and a line that are shown; for all settings, columns and bytes; no condition but a line's length · A product of two words that is small; for all numbers; no condition but their size · Layer 11: what takes characters off the screen; for all settings, columns and lines; no condition but the lines' length · Layer 10: the last character of a line, its last word; for all settings and lines; no condition but a line's length · Layer 10: a line's last word; for all settings and lines; no condition but a line's length · Layer 13: lines that wait: what they use, copies of them, one more; for all lines; no condition but their size · Layer 13: copies of lines; for all lines; no condition but their size · Layer 13: lines with one more, a read of the first one; for all lines; no condition but their size · Layer 13: a read of the first line that waits; for all lines and numbers; no condition but the lines' size. -/
import Derived.Test.YtnfcdbjckdhieaaGreatPkD
import Derived.Test.YtnfcdbjckdhieaaGreatPkC
namespace Go.Proofs.YtnfcdbjckdhieaaGreat
set_option linter.all false
set_option maxRecDepth 100000
open Go.RowKit

theorem within_rng (col : Int) : 0 ≤ withinC col ∧ withinC col ≤ 65535 := by
  unfold withinC
  split
  · omega
  · rename_i h
    simp at h
    omega
theorem col_rng {t : TM} {col c : Int} (h : 0 ≤ col ∧ col ≤ 65535) : 0 ≤ colC t col c ∧ colC t col c ≤ 65535 := by
  unfold colC
  split
  · exact within_rng _
  · split
    · split <;> omega
    · split
      · omega
      · split
        · exact h
        · exact within_rng _
def feedC (t : TM) (col : Int) : Int := if t.has 75 then 0 else colC t col 10
theorem feed_any (t : TM) (col : Int) (A : Option Addr) (n cap g : Nat) (out : List Int) (w : World) (h : PenAt w g t col A n cap out) (hc : 0 ≤ col ∧ col ≤ 65535) (hn : n ≤ 1500000) : Calls Tryz.prog 135 #[.pointer (some ⟨g, 0, none⟩)] w (PenPost w g t A n cap (feedC t col) (out ++ [10]) (n + 1) (.tuple #[])) := by
  have hlen := h.len
  refine Hs.enter Tryz.func135 (g :: (Value.ownBlock (.slice A n cap)).toList) [g, 0] [.b true 175 (penSC t col A n cap), .s A cap n 5 1 (out.flatMap cu8)] [.c (.p 0 0)] h.mem (by kernel_rfl) (by kernel_rfl) ?_
  refine Hs.run0 300 (fun _ => by kernel_rfl) ?_
  refine Hs.callBS 0 1 (T := 175) (cs0 := penSC t (col) A (n) cap) (.tuple #[]) (fun A' cap' => penSC t (colC t col 10) A' (n + 1) cap') (out) (out ++ [10]) (n) (n + 1) (by simp [hlen]) (by simp [hlen]) (by decide) (by kernel_rfl) (by kernel_rfl) (fun w' H hB hO hne => put_any t (col) 10 A (n) cap g (out) w' ⟨hB, hO, by simp [hlen], hne⟩ hc (by omega)) (by kernel_rfl) (by kernel_rfl) (fun _ _ => (by kernel_rfl)) fun A1 c1 _ _ => ?_
  refine Hs.run0 300 (fun _ => by kernel_rfl) ?_
  refine Hs.callV (fun w' H => phas_any t 75 (colC t col 10) A1 (n + 1) c1 g w' (show Blk w' g 175 (penV t (colC t col 10) A1 (n + 1) c1) from H.at 0 (wr := true) (T := 175) (cs := penSC t (colC t col 10) A1 (n + 1) c1) (by kernel_rfl))) (by kernel_rfl) ?_
  refine Hs.run0 300 (fun _ => by kernel_rfl) ?_
  refine Hs.cond (t.has 75) (by kernel_rfl) (fun h1 => ?_) (fun h1 => ?_)
  · refine Hs.run0 300 (fun _ => by kernel_rfl) ?_
    have ec : feedC t col = 0 := by simp only [feedC, h1, if_true]
    rw [ec]
    exact Hs.ret (v := .tuple #[]) Tryz.func135 (by kernel_rfl) fun w' H => PenPost.of (A' := A1) (cap' := c1) H rfl (by kernel_rfl) (by kernel_rfl) (by simp [hlen])
  · refine Hs.run0 300 (fun _ => by kernel_rfl) ?_
    have ec : feedC t col = colC t col 10 := by simp only [feedC, h1, Bool.false_eq_true, if_false]
    rw [ec]
    exact Hs.ret (v := .tuple #[]) Tryz.func135 (by kernel_rfl) fun w' H => PenPost.of (A' := A1) (cap' := c1) H rfl (by kernel_rfl) (by kernel_rfl) (by simp [hlen])
def backC (t : TM) (col : Int) : Int × List Int := if col == 0 && t.has 74 then (col, []) else if t.has 73 then (feedC t col, [10]) else (colC t col 13, [13])
theorem back_any (t : TM) (col : Int) (A : Option Addr) (n cap g : Nat) (out : List Int) (w : World) (h : PenAt w g t col A n cap out) (hc : 0 ≤ col ∧ col ≤ 65535) (hn : n ≤ 1400000) : Calls Tryz.prog 134 #[.pointer (some ⟨g, 0, none⟩)] w (PenPost w g t A n cap (backC t col).1 (out ++ (backC t col).2) (n + (backC t col).2.length) (.tuple #[])) := by
  have hlen := h.len
  refine Hs.enter Tryz.func134 (g :: (Value.ownBlock (.slice A n cap)).toList) [g, 0] [.b true 175 (penSC t col A n cap), .s A cap n 5 1 (out.flatMap cu8)] [.c (.p 0 0)] h.mem (by kernel_rfl) (by kernel_rfl) ?_
  refine Hs.run0 300 (fun _ => by kernel_rfl) ?_
  refine Hs.bool 10 (col == 0) (by kernel_rfl) (fun h1 => ?_) (fun h1 => ?_)
  · refine Hs.rung0 [5] 300 (fun _ => by kernel_rfl) ?_
    refine Hs.callV (fun w' H => phas_any t 74 (col) A (n) cap g w' (show Blk w' g 175 (penV t (col) A (n) cap) from H.at 0 (wr := true) (T := 175) (cs := penSC t (col) A (n) cap) (by kernel_rfl))) (by kernel_rfl) ?_
    refine Hs.rung0 [5] 300 (fun _ => by kernel_rfl) ?_
    refine Hs.cond (t.has 74) (by kernel_rfl) (fun h2 => ?_) (fun h2 => ?_)
    · refine Hs.run0 300 (fun _ => by kernel_rfl) ?_
      have ec : backC t col = (col, []) := by simp only [backC, h1, h2, Bool.and_self, if_true]
      rw [ec, List.append_nil]
      exact Hs.ret (v := .tuple #[]) Tryz.func134 (by kernel_rfl) fun w' H => PenPost.of (A' := A) (cap' := cap) H rfl (by kernel_rfl) (by kernel_rfl) (by simp [hlen])
    · refine Hs.run0 300 (fun _ => by kernel_rfl) ?_
      refine Hs.callV (fun w' H => phas_any t 73 (col) A (n) cap g w' (show Blk w' g 175 (penV t (col) A (n) cap) from H.at 0 (wr := true) (T := 175) (cs := penSC t (col) A (n) cap) (by kernel_rfl))) (by kernel_rfl) ?_
      refine Hs.run0 300 (fun _ => by kernel_rfl) ?_
      refine Hs.cond (t.has 73) (by kernel_rfl) (fun h3 => ?_) (fun h3 => ?_)
      · refine Hs.run0 300 (fun _ => by kernel_rfl) ?_
        refine Hs.callBS 0 1 (T := 175) (cs0 := penSC t (col) A (n) cap) (.tuple #[]) (fun A' cap' => penSC t (feedC t col) A' (n + 1) cap') (out) (out ++ [10]) (n) (n + 1) (by simp [hlen]) (by simp [hlen]) (by decide) (by kernel_rfl) (by kernel_rfl) (fun w' H hB hO hne => feed_any t (col) A (n) cap g (out) w' ⟨hB, hO, by simp [hlen], hne⟩ hc (by omega)) (by kernel_rfl) (by kernel_rfl) (fun _ _ => (by kernel_rfl)) fun A1 c1 _ _ => ?_
        have ec : backC t col = (feedC t col, [10]) := by simp only [backC, h1, h2, h3, Bool.false_eq_true, if_false, if_true, Bool.and_false, Bool.false_and]
        rw [ec]
        refine Hs.run0 300 (fun _ => by kernel_rfl) ?_
        exact Hs.ret (v := .tuple #[]) Tryz.func134 (by kernel_rfl) fun w' H => PenPost.of (A' := A1) (cap' := c1) H rfl (by kernel_rfl) (by kernel_rfl) (by simp [hlen])
      · refine Hs.run0 300 (fun _ => by kernel_rfl) ?_
        refine Hs.callBS 0 1 (T := 175) (cs0 := penSC t (col) A (n) cap) (.tuple #[]) (fun A' cap' => penSC t (colC t col 13) A' (n + 1) cap') (out) (out ++ [13]) (n) (n + 1) (by simp [hlen]) (by simp [hlen]) (by decide) (by kernel_rfl) (by kernel_rfl) (fun w' H hB hO hne => put_any t (col) 13 A (n) cap g (out) w' ⟨hB, hO, by simp [hlen], hne⟩ hc (by omega)) (by kernel_rfl) (by kernel_rfl) (fun _ _ => (by kernel_rfl)) fun A1 c1 _ _ => ?_
        have ec : backC t col = (colC t col 13, [13]) := by simp only [backC, h1, h2, h3, Bool.false_eq_true, if_false, if_true, Bool.and_false, Bool.false_and]
        rw [ec]
        refine Hs.run0 300 (fun _ => by kernel_rfl) ?_
        exact Hs.ret (v := .tuple #[]) Tryz.func134 (by kernel_rfl) fun w' H => PenPost.of (A' := A1) (cap' := c1) H rfl (by kernel_rfl) (by kernel_rfl) (by simp [hlen])
  · refine Hs.rung0 [5] 300 (fun _ => by kernel_rfl) ?_
    refine Hs.condF (by kernel_rfl) ?_
    refine Hs.run0 300 (fun _ => by kernel_rfl) ?_
    refine Hs.callV (fun w' H => phas_any t 73 (col) A (n) cap g w' (show Blk w' g 175 (penV t (col) A (n) cap) from H.at 0 (wr := true) (T := 175) (cs := penSC t (col) A (n) cap) (by kernel_rfl))) (by kernel_rfl) ?_
    refine Hs.run0 300 (fun _ => by kernel_rfl) ?_
    refine Hs.cond (t.has 73) (by kernel_rfl) (fun h3 => ?_) (fun h3 => ?_)
    · refine Hs.run0 300 (fun _ => by kernel_rfl) ?_
      refine Hs.callBS 0 1 (T := 175) (cs0 := penSC t (col) A (n) cap) (.tuple #[]) (fun A' cap' => penSC t (feedC t col) A' (n + 1) cap') (out) (out ++ [10]) (n) (n + 1) (by simp [hlen]) (by simp [hlen]) (by decide) (by kernel_rfl) (by kernel_rfl) (fun w' H hB hO hne => feed_any t (col) A (n) cap g (out) w' ⟨hB, hO, by simp [hlen], hne⟩ hc (by omega)) (by kernel_rfl) (by kernel_rfl) (fun _ _ => (by kernel_rfl)) fun A1 c1 _ _ => ?_
      have ec : backC t col = (feedC t col, [10]) := by simp only [backC, h1, h3, Bool.false_eq_true, if_false, if_true, Bool.and_false, Bool.false_and]
      rw [ec]
      refine Hs.run0 300 (fun _ => by kernel_rfl) ?_
      exact Hs.ret (v := .tuple #[]) Tryz.func134 (by kernel_rfl) fun w' H => PenPost.of (A' := A1) (cap' := c1) H rfl (by kernel_rfl) (by kernel_rfl) (by simp [hlen])
    · refine Hs.run0 300 (fun _ => by kernel_rfl) ?_
      refine Hs.callBS 0 1 (T := 175) (cs0 := penSC t (col) A (n) cap) (.tuple #[]) (fun A' cap' => penSC t (colC t col 13) A' (n + 1) cap') (out) (out ++ [13]) (n) (n + 1) (by simp [hlen]) (by simp [hlen]) (by decide) (by kernel_rfl) (by kernel_rfl) (fun w' H hB hO hne => put_any t (col) 13 A (n) cap g (out) w' ⟨hB, hO, by simp [hlen], hne⟩ hc (by omega)) (by kernel_rfl) (by kernel_rfl) (fun _ _ => (by kernel_rfl)) fun A1 c1 _ _ => ?_
      have ec : backC t col = (colC t col 13, [13]) := by simp only [backC, h1, h3, Bool.false_eq_true, if_false, if_true, Bool.and_false, Bool.false_and]
      rw [ec]
      refine Hs.run0 300 (fun _ => by kernel_rfl) ?_
      exact Hs.ret (v := .tuple #[]) Tryz.func134 (by kernel_rfl) fun w' H => PenPost.of (A' := A1) (cap' := c1) H rfl (by kernel_rfl) (by kernel_rfl) (by simp [hlen])
end Go.Proofs.YtnfcdbjckdhieaaGreat

namespace Go.Proofs.YtnfcdbjckdhieaaGreat
set_option linter.all false
set_option maxRecDepth 100000
open Go.RowKit

def upC (c : Int) : Int := IntKind.u8.wrap (((BitVec.ofInt 8 c) &&& ~~~(BitVec.ofInt 8 32)).toNat)
def writeC (t : TM) (col c : Int) : Int × List Int :=
  if !t.has 70 then (colC t col c, [c]) else if c == 13 then backC t col else if c == 10 && t.has 72 then (colC t (colC t col 13) 10, [13, 10]) else if c == 10 then (feedC t col, [10]) else if (decide (c ≥ 97) && decide (c ≤ 122)) && t.has 71 then (colC t col (upC c), [upC c]) else (colC t col c, [c])
theorem write_any (t : TM) (col c : Int) (A : Option Addr) (n cap g : Nat) (out : List Int) (w : World) (h : PenAt w g t col A n cap out) (hc : 0 ≤ col ∧ col ≤ 65535) (hn : n ≤ 1300000) : Calls Tryz.prog 98 #[.pointer (some ⟨g, 0, none⟩), .int .u8 c] w (PenPost w g t A n cap (writeC t col c).1 (out ++ (writeC t col c).2) (n + (writeC t col c).2.length) (.tuple #[])) := by
  have hlen := h.len
  refine Hs.enter Tryz.func98 (g :: (Value.ownBlock (.slice A n cap)).toList) [g, 0] [.b true 175 (penSC t col A n cap), .s A cap n 5 1 (out.flatMap cu8)] [.c (.p 0 0), .c (.v (.int .u8 c))] h.mem (by kernel_rfl) (by kernel_rfl) ?_
  refine Hs.run0 300 (fun _ => by kernel_rfl) ?_
  refine Hs.callV (fun w' H => phas_any t 70 (col) A (n) cap g w' (show Blk w' g 175 (penV t (col) A (n) cap) from H.at 0 (wr := true) (T := 175) (cs := penSC t (col) A (n) cap) (by kernel_rfl))) (by kernel_rfl) ?_
  refine Hs.run0 300 (fun _ => by kernel_rfl) ?_
  refine Hs.cond (!t.has 70) (by kernel_rfl) (fun h1 => ?_) (fun h1 => ?_)
  · refine Hs.run0 300 (fun _ => by kernel_rfl) ?_
    refine Hs.callBS 0 1 (T := 175) (cs0 := penSC t (col) A (n) cap) (.tuple #[]) (fun A' cap' => penSC t (colC t col (c)) A' (n + 1) cap') (out) (out ++ [c]) (n) (n + 1) (by simp [hlen]) (by simp [hlen]) (by decide) (by kernel_rfl) (by kernel_rfl) (fun w' H hB hO hne => put_any t (col) (c) A (n) cap g (out) w' ⟨hB, hO, by simp [hlen], hne⟩ hc (by omega)) (by kernel_rfl) (by kernel_rfl) (fun _ _ => (by kernel_rfl)) fun A1 c1 _ _ => ?_
    refine Hs.run0 300 (fun _ => by kernel_rfl) ?_
    have ec : writeC t col c = (colC t col (c), [c]) := by simp only [writeC, h1, Bool.false_eq_true, if_false, if_true, Bool.and_true, Bool.and_false, Bool.false_and, Bool.not_true, Bool.not_false]
    rw [ec]
    exact Hs.ret (v := .tuple #[]) Tryz.func98 (by kernel_rfl) fun w' H => PenPost.of (A' := A1) (cap' := c1) H rfl (by kernel_rfl) (by kernel_rfl) (by simp [hlen])
  replace h1 : t.has 70 = true := by simpa using h1
  refine Hs.run0 300 (fun _ => by kernel_rfl) ?_
  refine Hs.cond (c == 13) (by kernel_rfl) (fun h2 => ?_) (fun h2 => ?_)
  · refine Hs.run0 300 (fun _ => by kernel_rfl) ?_
    refine Hs.callBS 0 1 (T := 175) (cs0 := penSC t (col) A (n) cap) (.tuple #[]) (fun A' cap' => penSC t ((backC t col).1) A' (n + (backC t col).2.length) cap') (out) (out ++ (backC t col).2) (n) (n + (backC t col).2.length) (by simp [hlen]) (by simp [hlen]) (by decide) (by kernel_rfl) (by kernel_rfl) (fun w' H hB hO hne => back_any t (col) A (n) cap g (out) w' ⟨hB, hO, by simp [hlen], hne⟩ hc (by omega)) (by kernel_rfl) (by kernel_rfl) (fun _ _ => (by kernel_rfl)) fun A1 c1 _ _ => ?_
    refine Hs.run0 300 (fun _ => by kernel_rfl) ?_
    have ec : writeC t col c = backC t col := by simp only [writeC, h1, h2, Bool.false_eq_true, if_false, if_true, Bool.and_true, Bool.and_false, Bool.false_and, Bool.not_true, Bool.not_false]
    rw [ec]
    exact Hs.ret (v := .tuple #[]) Tryz.func98 (by kernel_rfl) fun w' H => PenPost.of (A' := A1) (cap' := c1) H rfl (by kernel_rfl) (by kernel_rfl) (by simp [hlen])
  refine Hs.run0 300 (fun _ => by kernel_rfl) ?_
  refine Hs.bool 22 (c == 10) (by kernel_rfl) (fun h3 => ?_) (fun h3 => ?_)
  · refine Hs.rung0 [2] 300 (fun _ => by kernel_rfl) ?_
    refine Hs.callV (fun w' H => phas_any t 72 (col) A (n) cap g w' (show Blk w' g 175 (penV t (col) A (n) cap) from H.at 0 (wr := true) (T := 175) (cs := penSC t (col) A (n) cap) (by kernel_rfl))) (by kernel_rfl) ?_
    refine Hs.rung0 [2] 300 (fun _ => by kernel_rfl) ?_
    refine Hs.cond (t.has 72) (by kernel_rfl) (fun h4 => ?_) (fun h4 => ?_)
    · refine Hs.run0 300 (fun _ => by kernel_rfl) ?_
      refine Hs.callBS 0 1 (T := 175) (cs0 := penSC t (col) A (n) cap) (.tuple #[]) (fun A' cap' => penSC t (colC t col 13) A' (n + 1) cap') (out) (out ++ [13]) (n) (n + 1) (by simp [hlen]) (by simp [hlen]) (by decide) (by kernel_rfl) (by kernel_rfl) (fun w' H hB hO hne => put_any t (col) 13 A (n) cap g (out) w' ⟨hB, hO, by simp [hlen], hne⟩ hc (by omega)) (by kernel_rfl) (by kernel_rfl) (fun _ _ => (by kernel_rfl)) fun A1 c1 _ _ => ?_
      refine Hs.run0 300 (fun _ => by kernel_rfl) ?_
      refine Hs.callBS 0 1 (T := 175) (cs0 := penSC t (colC t col 13) A1 (n + 1) c1) (.tuple #[]) (fun A' cap' => penSC t (colC t (colC t col 13) 10) A' (n + 2) cap') (out ++ [13]) (out ++ [13, 10]) (n + 1) (n + 2) (by simp [hlen]) (by simp [hlen]) (by decide) (by kernel_rfl) (by kernel_rfl) (fun w' H hB hO hne => by have := put_any t (colC t col 13) 10 A1 (n + 1) c1 g (out ++ [13]) w' ⟨hB, hO, by simp [hlen], hne⟩ (col_rng hc) (by omega); rw [List.append_assoc] at this; exact this) (by kernel_rfl) (by kernel_rfl) (fun _ _ => (by kernel_rfl)) fun A2 c2 _ _ => ?_
      refine Hs.run0 300 (fun _ => by kernel_rfl) ?_
      have ec : writeC t col c = (colC t (colC t col 13) 10, [13, 10]) := by simp only [writeC, h1, h2, h3, h4, Bool.false_eq_true, if_false, if_true, Bool.and_true, Bool.and_false, Bool.false_and, Bool.not_true, Bool.not_false]
      rw [ec]
      exact Hs.ret (v := .tuple #[]) Tryz.func98 (by kernel_rfl) fun w' H => PenPost.of (A' := A2) (cap' := c2) H rfl (by kernel_rfl) (by kernel_rfl) (by simp [hlen])
    · refine Hs.run0 300 (fun _ => by kernel_rfl) ?_
      refine Hs.cond (c == 10) (by kernel_rfl) (fun _ => ?_) (fun hx => absurd (h3.symm.trans hx) (by decide))
      refine Hs.run0 300 (fun _ => by kernel_rfl) ?_
      refine Hs.callBS 0 1 (T := 175) (cs0 := penSC t (col) A (n) cap) (.tuple #[]) (fun A' cap' => penSC t (feedC t col) A' (n + 1) cap') (out) (out ++ [10]) (n) (n + 1) (by simp [hlen]) (by simp [hlen]) (by decide) (by kernel_rfl) (by kernel_rfl) (fun w' H hB hO hne => feed_any t (col) A (n) cap g (out) w' ⟨hB, hO, by simp [hlen], hne⟩ hc (by omega)) (by kernel_rfl) (by kernel_rfl) (fun _ _ => (by kernel_rfl)) fun A1 c1 _ _ => ?_
      refine Hs.run0 300 (fun _ => by kernel_rfl) ?_
      have ec : writeC t col c = (feedC t col, [10]) := by simp only [writeC, h1, h2, h3, h4, Bool.false_eq_true, if_false, if_true, Bool.and_true, Bool.and_false, Bool.false_and, Bool.not_true, Bool.not_false]
      rw [ec]
      exact Hs.ret (v := .tuple #[]) Tryz.func98 (by kernel_rfl) fun w' H => PenPost.of (A' := A1) (cap' := c1) H rfl (by kernel_rfl) (by kernel_rfl) (by simp [hlen])
  · refine Hs.rung0 [2] 300 (fun _ => by kernel_rfl) ?_
    refine Hs.condF (by kernel_rfl) ?_
    refine Hs.run0 300 (fun _ => by kernel_rfl) ?_
    refine Hs.cond (c == 10) (by kernel_rfl) (fun hx => absurd (h3.symm.trans hx) (by decide)) (fun _ => ?_)
    refine Hs.run0 300 (fun _ => by kernel_rfl) ?_
    refine Hs.bool 38 (decide (c ≥ 97)) (by kernel_rfl) (fun h5 => ?_) (fun h5 => ?_)
    · refine Hs.rung0 [2] 300 (fun _ => by kernel_rfl) ?_
      refine Hs.bool 42 (decide (c ≤ 122)) (by kernel_rfl) (fun h6 => ?_) (fun h6 => ?_)
      · refine Hs.rung0 [2, 6] 300 (fun _ => by kernel_rfl) ?_
        refine Hs.callV (fun w' H => phas_any t 71 (col) A (n) cap g w' (show Blk w' g 175 (penV t (col) A (n) cap) from H.at 0 (wr := true) (T := 175) (cs := penSC t (col) A (n) cap) (by kernel_rfl))) (by kernel_rfl) ?_
        refine Hs.rung0 [2, 6] 300 (fun _ => by kernel_rfl) ?_
        refine Hs.cond (t.has 71) (by kernel_rfl) (fun h7 => ?_) (fun h7 => ?_)
        · refine Hs.run0 300 (fun _ => by kernel_rfl) ?_
          refine Hs.callBS 0 1 (T := 175) (cs0 := penSC t (col) A (n) cap) (.tuple #[]) (fun A' cap' => penSC t (colC t col (upC c)) A' (n + 1) cap') (out) (out ++ [upC c]) (n) (n + 1) (by simp [hlen]) (by simp [hlen]) (by decide) (by kernel_rfl) (by kernel_rfl) (fun w' H hB hO hne => put_any t (col) (upC c) A (n) cap g (out) w' ⟨hB, hO, by simp [hlen], hne⟩ hc (by omega)) (by kernel_rfl) (by kernel_rfl) (fun _ _ => (by kernel_rfl)) fun A1 c1 _ _ => ?_
          refine Hs.run0 300 (fun _ => by kernel_rfl) ?_
          have ec : writeC t col c = (colC t col (upC c), [upC c]) := by simp only [writeC, h1, h2, h3, h5, h6, h7, Bool.false_eq_true, if_false, if_true, Bool.and_true, Bool.and_false, Bool.false_and, Bool.not_true, Bool.not_false]
          rw [ec]
          exact Hs.ret (v := .tuple #[]) Tryz.func98 (by kernel_rfl) fun w' H => PenPost.of (A' := A1) (cap' := c1) H rfl (by kernel_rfl) (by kernel_rfl) (by simp [hlen])
        · refine Hs.run0 300 (fun _ => by kernel_rfl) ?_
          refine Hs.callBS 0 1 (T := 175) (cs0 := penSC t (col) A (n) cap) (.tuple #[]) (fun A' cap' => penSC t (colC t col (c)) A' (n + 1) cap') (out) (out ++ [c]) (n) (n + 1) (by simp [hlen]) (by simp [hlen]) (by decide) (by kernel_rfl) (by kernel_rfl) (fun w' H hB hO hne => put_any t (col) (c) A (n) cap g (out) w' ⟨hB, hO, by simp [hlen], hne⟩ hc (by omega)) (by kernel_rfl) (by kernel_rfl) (fun _ _ => (by kernel_rfl)) fun A1 c1 _ _ => ?_
          refine Hs.run0 300 (fun _ => by kernel_rfl) ?_
          have ec : writeC t col c = (colC t col (c), [c]) := by simp only [writeC, h1, h2, h3, h5, h6, h7, Bool.false_eq_true, if_false, if_true, Bool.and_true, Bool.and_false, Bool.false_and, Bool.not_true, Bool.not_false]
          rw [ec]
          exact Hs.ret (v := .tuple #[]) Tryz.func98 (by kernel_rfl) fun w' H => PenPost.of (A' := A1) (cap' := c1) H rfl (by kernel_rfl) (by kernel_rfl) (by simp [hlen])
      · refine Hs.rung0 [2, 6] 300 (fun _ => by kernel_rfl) ?_
        refine Hs.condF (by kernel_rfl) ?_
        refine Hs.run0 300 (fun _ => by kernel_rfl) ?_
        refine Hs.callBS 0 1 (T := 175) (cs0 := penSC t (col) A (n) cap) (.tuple #[]) (fun A' cap' => penSC t (colC t col (c)) A' (n + 1) cap') (out) (out ++ [c]) (n) (n + 1) (by simp [hlen]) (by simp [hlen]) (by decide) (by kernel_rfl) (by kernel_rfl) (fun w' H hB hO hne => put_any t (col) (c) A (n) cap g (out) w' ⟨hB, hO, by simp [hlen], hne⟩ hc (by omega)) (by kernel_rfl) (by kernel_rfl) (fun _ _ => (by kernel_rfl)) fun A1 c1 _ _ => ?_
        refine Hs.run0 300 (fun _ => by kernel_rfl) ?_
        have ec : writeC t col c = (colC t col (c), [c]) := by simp only [writeC, h1, h2, h3, h5, h6, Bool.false_eq_true, if_false, if_true, Bool.and_true, Bool.and_false, Bool.false_and, Bool.not_true, Bool.not_false]
        rw [ec]
        exact Hs.ret (v := .tuple #[]) Tryz.func98 (by kernel_rfl) fun w' H => PenPost.of (A' := A1) (cap' := c1) H rfl (by kernel_rfl) (by kernel_rfl) (by simp [hlen])
    · refine Hs.rung0 [2, 6] 300 (fun _ => by kernel_rfl) ?_
      refine Hs.condF (by kernel_rfl) ?_
      refine Hs.run0 300 (fun _ => by kernel_rfl) ?_
      refine Hs.callBS 0 1 (T := 175) (cs0 := penSC t (col) A (n) cap) (.tuple #[]) (fun A' cap' => penSC t (colC t col (c)) A' (n + 1) cap') (out) (out ++ [c]) (n) (n + 1) (by simp [hlen]) (by simp [hlen]) (by decide) (by kernel_rfl) (by kernel_rfl) (fun w' H hB hO hne => put_any t (col) (c) A (n) cap g (out) w' ⟨hB, hO, by simp [hlen], hne⟩ hc (by omega)) (by kernel_rfl) (by kernel_rfl) (fun _ _ => (by kernel_rfl)) fun A1 c1 _ _ => ?_
      refine Hs.run0 300 (fun _ => by kernel_rfl) ?_
      have ec : writeC t col c = (colC t col (c), [c]) := by simp only [writeC, h1, h2, h3, h5, Bool.false_eq_true, if_false, if_true, Bool.and_true, Bool.and_false, Bool.false_and, Bool.not_true, Bool.not_false]
      rw [ec]
      exact Hs.ret (v := .tuple #[]) Tryz.func98 (by kernel_rfl) fun w' H => PenPost.of (A' := A1) (cap' := c1) H rfl (by kernel_rfl) (by kernel_rfl) (by simp [hlen])
end Go.Proofs.YtnfcdbjckdhieaaGreat

namespace Go.Proofs.YtnfcdbjckdhieaaGreat
set_option linter.all false
set_option maxRecDepth 100000
open Go.RowKit

def postC (t : TM) (col : Int) : List Int → Int × List Int
  | [] => (col, [])
  | c :: b => ((postC t (writeC t col c).1 b).1, (writeC t col c).2 ++ (postC t (writeC t col c).1 b).2)
theorem postC_snoc (t : TM) (c : Int) : ∀ (b : List Int) (col : Int), postC t col (b ++ [c]) = ((writeC t (postC t col b).1 c).1, (postC t col b).2 ++ (writeC t (postC t col b).1 c).2)
  | [], col => by simp [postC]
  | x :: b, col => by
    have ih := postC_snoc t c b (writeC t col x).1
    simp only [List.cons_append, postC, ih, List.append_assoc]
theorem feed_rng {t : TM} {col : Int} (h : 0 ≤ col ∧ col ≤ 65535) : 0 ≤ feedC t col ∧ feedC t col ≤ 65535 := by
  unfold feedC
  split
  · omega
  · exact col_rng h
theorem back_rng {t : TM} {col : Int} (h : 0 ≤ col ∧ col ≤ 65535) : (0 ≤ (backC t col).1 ∧ (backC t col).1 ≤ 65535) ∧ (backC t col).2.length ≤ 1 := by
  unfold backC
  split
  · exact ⟨h, by simp⟩
  · split
    · exact ⟨feed_rng h, by simp⟩
    · exact ⟨col_rng (t := t) (c := 13) h, by simp⟩
theorem write_rng {t : TM} {col c : Int} (h : 0 ≤ col ∧ col ≤ 65535) : (0 ≤ (writeC t col c).1 ∧ (writeC t col c).1 ≤ 65535) ∧ (writeC t col c).2.length ≤ 2 := by
  unfold writeC
  split
  · exact ⟨col_rng (t := t) (c := c) h, by simp⟩
  · split
    · exact ⟨(back_rng h).1, Nat.le_trans (back_rng h).2 (by decide)⟩
    · split
      · exact ⟨col_rng (t := t) (c := 10) (col_rng (t := t) (c := 13) h), by simp⟩
      · split
        · exact ⟨feed_rng h, by simp⟩
        · split
          · exact ⟨col_rng (t := t) (c := upC c) h, by simp⟩
          · exact ⟨col_rng (t := t) (c := c) h, by simp⟩
theorem post_rng {t : TM} : ∀ {b : List Int} {col : Int}, 0 ≤ col ∧ col ≤ 65535 → (0 ≤ (postC t col b).1 ∧ (postC t col b).1 ≤ 65535) ∧ (postC t col b).2.length ≤ 2 * b.length
  | [], col, h => ⟨h, by simp [postC]⟩
  | c :: b, col, h => by
    have h1 := write_rng (t := t) (c := c) h
    have h2 := post_rng (t := t) (b := b) h1.1
    refine ⟨h2.1, ?_⟩
    simp only [postC, List.length_append, List.length_cons]
    omega
theorem post_Bytes_any (t : TM) (col0 : Int) (A : Option Addr) (cap : Nat) (b : List Int) (w : World) (hb : RdX cu8 w A b) (hle : b.length ≤ cap) (hcap : cap ≤ maxLen) (hn : b.length ≤ 500000) : Calls Tryz.prog 50 #[t.val, .int .i64 col0, .slice A b.length cap] w fun e w' => ∃ A' cap', e = .returned (.tuple #[.slice A' (postC t (withinC col0) b).2.length cap', .int .i64 (postC t (withinC col0) b).1]) ∧ Only [] w w' ∧ OwnX cu8 5 1 w' w.heap.size (.slice A' (postC t (withinC col0) b).2.length cap') (postC t (withinC col0) b).2 := by
  have hlen : b.length ≤ maxLen := Nat.le_trans hle hcap
  refine Hs.enter Tryz.func50 [] [] [] [.g t.sc, .c (.v (.int .i64 col0)), .c (.v (.slice A b.length cap))] (Mem.start0 w) (by kernel_rfl) (by kernel_rfl) ?_
  have J : ∀ (d i : Nat), b.length - i = d → i ≤ b.length → ∀ (b0 b1 : Nat) (A2 : Option Addr) (c2 n2 : Nat) (col : Int) (l2 : List Int), (col, l2) = postC t (withinC col0) (b.take i) → l2.length = n2 → ∀ (u : Nat → Value), Hs Tryz.prog 50 (fun e w' => ∃ A' cap', e = .returned (.tuple #[.slice A' (postC t (withinC col0) b).2.length cap', .int .i64 (postC t (withinC col0) b).1]) ∧ Only [] w w' ∧ OwnX cu8 5 1 w' w.heap.size (.slice A' (postC t (withinC col0) b).2.length cap') (postC t (withinC col0) b).2) (Tryz.f50).ntmps w [] [b1, 0] ⟨.no, loopAt Tryz.f50 0, pins [(8, .c (.p 0 0)), (16, .c (.v (.slice A b.length cap))), (17, .c (.v (.int .i64 b.length))), (18, .c (.v (.int .i64 i)))] (.vals u), [.b true 175 (penSC t col A2 n2 c2), .s A2 c2 n2 5 1 (l2.flatMap cu8)]⟩ := by
    intro d
    induction d with
    | zero =>
      intro i hd hi b0 b1 A2 c2 n2 col l2 hl2 hn2 u
      obtain rfl : i = b.length := by omega
      rw [List.take_length] at hl2
      refine Hs.run0 300 (fun _ => by kernel_rfl) ?_
      refine Hs.condP ((b.length : Int) < (b.length : Int)) (by kernel_rfl) (fun h => by omega) (fun h => ?_)
      refine Hs.run0 300 (fun _ => by kernel_rfl) ?_
      refine Hs.any [0] (by kernel_rfl) ?_
      refine Hs.run0 300 (fun _ => by kernel_rfl) ?_
      rw [← hl2]
      subst hn2
      exact Hs.ret (v := .tuple #[.slice A2 l2.length c2, .int .i64 col]) Tryz.func50 (by kernel_rfl) fun w' H => ⟨A2, c2, rfl, H.only, H.fresh 1 rfl (by kernel_rfl)⟩
    | succ d ih =>
      intro i hd hi b0 b1 A2 c2 n2 col l2 hl2 hn2 u
      have hil : i < b.length := by omega
      obtain ⟨x, hx⟩ : ∃ x, b[i]? = some x := ⟨_, List.getElem?_eq_getElem hil⟩
      have htk : b.take (i + 1) = b.take i ++ [x] := by rw [List.take_add_one, hx]; rfl
      obtain ⟨ab, aoff, hA, _, _⟩ := hb (by omega)
      subst hA
      have hr := post_rng (t := t) (b := b.take i) (within_rng col0)
      rw [← hl2, List.length_take, Nat.min_eq_left hi] at hr
      obtain ⟨hr1, hr2⟩ := hr
      have hr1 : 0 ≤ col ∧ col ≤ 65535 := hr1
      have hr2 : l2.length ≤ 2 * i := hr2
      have hl3 : ((writeC t col x).1, l2 ++ (writeC t col x).2) = postC t (withinC col0) (b.take (i + 1)) := by
        rw [htk, postC_snoc, ← hl2]
      refine Hs.run0 300 (fun _ => by kernel_rfl) ?_
      refine Hs.condP ((i : Int) < (b.length : Int)) (by kernel_rfl) (fun h => ?_) (fun h => by omega)
      refine Hs.run0 300 (fun _ => by kernel_rfl) ?_
      refine Hs.idx (b := ab) (off := aoff) (c := cap) elemU8 hil (by kernel_rfl) ?_
      refine Hs.ldc (E' := 5) (b := ab) (off := aoff + i * 1) (.int .u8 x) (by kernel_rfl) (fun w' H => u8_cell (hb.only H.only) hx) (by kernel_rfl) ?_
      refine Hs.run0 300 (fun _ => by kernel_rfl) ?_
      refine Hs.callBS 0 1 (T := 175) (cs0 := penSC t col A2 n2 c2) (.tuple #[]) (fun A' cap' => penSC t (writeC t col x).1 A' (n2 + (writeC t col x).2.length) cap') l2 (l2 ++ (writeC t col x).2) n2 (n2 + (writeC t col x).2.length) hn2 (by simp [hn2]) (by decide) (by kernel_rfl) (by kernel_rfl) (fun w' H hB hO hne => write_any t col x A2 n2 c2 b1 l2 w' ⟨hB, hO, hn2, hne⟩ hr1 (by omega)) (by kernel_rfl) (by kernel_rfl) (fun _ _ => (by kernel_rfl)) fun A3 c3 _ _ => ?_
      refine Hs.run0 300 (fun _ => by kernel_rfl) ?_
      refine Hs.slot 18 (.c (.v (.int .i64 (i + 1 : Nat)))) rfl ((by kernel_rfl : _ = Value.int .i64 (IntKind.i64.wrap ((i : Int) + 1))).trans (wrap_nextJ hlen)) ?_
      refine Hs.loop (by kernel_rfl) ?_
      exact Hs.goto (loopAt Tryz.f50 0) [0, 1] [.b true 175 (penSC t (writeC t col x).1 A3 (n2 + (writeC t col x).2.length) c3), .s A3 c3 (n2 + (writeC t col x).2.length) 5 1 ((l2 ++ (writeC t col x).2).flatMap cu8)] [(8, .c (.p 0 0)), (16, .c (.v (.slice (some ⟨ab, aoff, none⟩) b.length cap))), (17, .c (.v (.int .i64 b.length))), (18, .c (.v (.int .i64 (i + 1 : Nat))))] (by kernel_rfl) (by decide) (by kernel_rfl) (by kernel_rfl) (fun _ => (by kernel_rfl)) (fun u => ih (i + 1) (by omega) (by omega) b0 b1 A3 c3 (n2 + (writeC t col x).2.length) (writeC t col x).1 (l2 ++ (writeC t col x).2) hl3 (by simp [hn2]) u)
  refine Hs.run1 300 (fun _ => by kernel_rfl) fun b0 => ?_
  refine Hs.any [0] (by kernel_rfl) ?_
  refine Hs.run0 300 (fun _ => by kernel_rfl) ?_
  refine Hs.callV (fun w' H => within_any col0 w') (by kernel_rfl) ?_
  refine Hs.run1 300 (fun _ => by kernel_rfl) fun b1 => ?_
  refine Hs.nilS 5 1 (by kernel_rfl) ?_ (by kernel_rfl)
  refine Hs.loop (by kernel_rfl) ?_
  exact Hs.goto (loopAt Tryz.f50 0) [1, 2] [.b true 175 (penSC t (withinC col0) none 0 0), .s none 0 0 5 1 (([] : List Int).flatMap cu8)] [(8, .c (.p 0 0)), (16, .c (.v (.slice A b.length cap))), (17, .c (.v (.int .i64 b.length))), (18, .c (.v (.int .i64 (0 : Nat))))] (by kernel_rfl) (by decide) (by kernel_rfl) (by kernel_rfl) (fun _ => (by kernel_rfl)) (fun u => J b.length 0 (by omega) (by omega) b0 b1 none 0 0 (withinC col0) [] rfl rfl u)
end Go.Proofs.YtnfcdbjckdhieaaGreat

namespace Go.Proofs.YtnfcdbjckdhieaaGreat
set_option linter.all false
set_option maxRecDepth 100000
open Go.RowKit

def fitL (t : TM) (room : Int) : Int → Nat → List Int → Nat
  | _, _, [] => 0
  | col, n, c :: b => if ((n + (writeC t col c).2.length : Nat) : Int) > room then 0 else fitL t room (writeC t col c).1 (n + (writeC t col c).2.length) b + 1
def fitC (t : TM) (col : Int) (b : List Int) (room : Int) : Int := if room < 0 then 0 else (fitL t room (withinC col) 0 b : Nat)
theorem post_Fit_any (t : TM) (col0 room : Int) (A : Option Addr) (cap : Nat) (b : List Int) (w : World) (hb : RdX cu8 w A b) (hle : b.length ≤ cap) (hcap : cap ≤ maxLen) (hn : b.length ≤ 500000) : Calls Tryz.prog 49 #[t.val, .int .i64 col0, .slice A b.length cap, .int .i64 room] w fun e w' => e = .returned (.int .i64 (fitC t col0 b room)) ∧ Only [] w w' := by
  have hlen : b.length ≤ maxLen := Nat.le_trans hle hcap
  refine Hs.enter Tryz.func49 [] [] [] [.g t.sc, .c (.v (.int .i64 col0)), .c (.v (.slice A b.length cap)), .c (.v (.int .i64 room))] (Mem.start0 w) (by kernel_rfl) (by kernel_rfl) ?_
  by_cases hroom : room < 0
  · refine Hs.run1 300 (fun _ => by kernel_rfl) fun b0 => ?_
    refine Hs.condP (room < 0) (by kernel_rfl) (fun _ => ?_) (fun h => absurd hroom h)
    refine Hs.run0 300 (fun _ => by kernel_rfl) ?_
    exact Hs.ret (v := .int .i64 0) Tryz.func49 (by kernel_rfl) fun w' H => ⟨by rw [fitC, if_pos hroom], H.only⟩
  have ef : fitC t col0 b room = (fitL t room (withinC col0) 0 b : Nat) := if_neg hroom
  have J : ∀ (d i : Nat), b.length - i = d → i ≤ b.length → ∀ (b1 : Nat) (A2 : Option Addr) (c2 n2 : Nat) (col : Int) (l2 : List Int), (col, l2) = postC t (withinC col0) (b.take i) → l2.length = n2 → fitL t room (withinC col0) 0 b = i + fitL t room col n2 (b.drop i) → ∀ (u : Nat → Value), Hs Tryz.prog 49 (fun e w' => e = .returned (.int .i64 (fitC t col0 b room)) ∧ Only [] w w') (Tryz.f49).ntmps w [] [b1, 0] ⟨.no, loopAt Tryz.f49 0, pins [(2, .c (.v (.slice A b.length cap))), (3, .c (.v (.int .i64 room))), (9, .c (.p 0 0)), (19, .c (.v (.slice A b.length cap))), (20, .c (.v (.int .i64 b.length))), (21, .c (.v (.int .i64 i)))] (.vals u), [.b true 175 (penSC t col A2 n2 c2), .s A2 c2 n2 5 1 (l2.flatMap cu8)]⟩ := by
    intro d
    induction d with
    | zero =>
      intro i hd hi b1 A2 c2 n2 col l2 hl2 hn2 hf u
      obtain rfl : i = b.length := by omega
      rw [List.drop_length] at hf
      refine Hs.run0 300 (fun _ => by kernel_rfl) ?_
      refine Hs.condP ((b.length : Int) < (b.length : Int)) (by kernel_rfl) (fun h => by omega) (fun h => ?_)
      refine Hs.run0 300 (fun _ => by kernel_rfl) ?_
      exact Hs.ret (v := .int .i64 (b.length : Nat)) Tryz.func49 (by kernel_rfl) fun w' H => ⟨by rw [ef, hf]; rfl, H.only⟩
    | succ d ih =>
      intro i hd hi b1 A2 c2 n2 col l2 hl2 hn2 hf u
      have hil : i < b.length := by omega
      obtain ⟨x, hx⟩ : ∃ x, b[i]? = some x := ⟨_, List.getElem?_eq_getElem hil⟩
      have htk : b.take (i + 1) = b.take i ++ [x] := by rw [List.take_add_one, hx]; rfl
      have hdr : b.drop i = x :: b.drop (i + 1) := by
        have h1 := List.drop_eq_getElem_cons hil
        rw [List.getElem?_eq_getElem hil] at hx
        injection hx with hx
        rw [h1, hx]
      obtain ⟨ab, aoff, hA, _, _⟩ := hb (by omega)
      subst hA
      have hr := post_rng (t := t) (b := b.take i) (within_rng col0)
      rw [← hl2, List.length_take, Nat.min_eq_left hi] at hr
      obtain ⟨hr1, hr2⟩ := hr
      have hr1 : 0 ≤ col ∧ col ≤ 65535 := hr1
      have hr2 : l2.length ≤ 2 * i := hr2
      have hl3 : ((writeC t col x).1, l2 ++ (writeC t col x).2) = postC t (withinC col0) (b.take (i + 1)) := by
        rw [htk, postC_snoc, ← hl2]
      rw [hdr] at hf
      rw [show fitL t room col n2 (x :: b.drop (i + 1)) = (if ((n2 + (writeC t col x).2.length : Nat) : Int) > room then 0 else fitL t room (writeC t col x).1 (n2 + (writeC t col x).2.length) (b.drop (i + 1)) + 1) from rfl] at hf
      refine Hs.run0 300 (fun _ => by kernel_rfl) ?_
      refine Hs.condP ((i : Int) < (b.length : Int)) (by kernel_rfl) (fun h => ?_) (fun h => by omega)
      refine Hs.run0 300 (fun _ => by kernel_rfl) ?_
      refine Hs.idx (b := ab) (off := aoff) (c := cap) elemU8 hil (by kernel_rfl) ?_
      refine Hs.ldc (E' := 5) (b := ab) (off := aoff + i * 1) (.int .u8 x) (by kernel_rfl) (fun w' H => u8_cell (hb.only H.only) hx) (by kernel_rfl) ?_
      refine Hs.run0 300 (fun _ => by kernel_rfl) ?_
      refine Hs.callBS 0 1 (T := 175) (cs0 := penSC t col A2 n2 c2) (.tuple #[]) (fun A' cap' => penSC t (writeC t col x).1 A' (n2 + (writeC t col x).2.length) cap') l2 (l2 ++ (writeC t col x).2) n2 (n2 + (writeC t col x).2.length) hn2 (by simp [hn2]) (by decide) (by kernel_rfl) (by kernel_rfl) (fun w' H hB hO hne => write_any t col x A2 n2 c2 b1 l2 w' ⟨hB, hO, hn2, hne⟩ hr1 (by omega)) (by kernel_rfl) (by kernel_rfl) (fun _ _ => (by kernel_rfl)) fun A3 c3 _ _ => ?_
      refine Hs.run0 300 (fun _ => by kernel_rfl) ?_
      refine Hs.condP (((n2 + (writeC t col x).2.length : Nat) : Int) > room) (by kernel_rfl) (fun h => ?_) (fun h => ?_)
      · rw [if_pos h] at hf
        refine Hs.run0 300 (fun _ => by kernel_rfl) ?_
        exact Hs.ret (v := .int .i64 (i : Nat)) Tryz.func49 (by kernel_rfl) fun w' H => ⟨by rw [ef, hf]; rfl, H.only⟩
      rw [if_neg h] at hf
      refine Hs.run0 300 (fun _ => by kernel_rfl) ?_
      refine Hs.slot 21 (.c (.v (.int .i64 (i + 1 : Nat)))) rfl ((by kernel_rfl : _ = Value.int .i64 (IntKind.i64.wrap ((i : Int) + 1))).trans (wrap_nextJ hlen)) ?_
      refine Hs.loop (by kernel_rfl) ?_
      exact Hs.goto (loopAt Tryz.f49 0) [0, 1] [.b true 175 (penSC t (writeC t col x).1 A3 (n2 + (writeC t col x).2.length) c3), .s A3 c3 (n2 + (writeC t col x).2.length) 5 1 ((l2 ++ (writeC t col x).2).flatMap cu8)] [(2, .c (.v (.slice (some ⟨ab, aoff, none⟩) b.length cap))), (3, .c (.v (.int .i64 room))), (9, .c (.p 0 0)), (19, .c (.v (.slice (some ⟨ab, aoff, none⟩) b.length cap))), (20, .c (.v (.int .i64 b.length))), (21, .c (.v (.int .i64 (i + 1 : Nat))))] (by kernel_rfl) (by decide) (by kernel_rfl) (by kernel_rfl) (fun _ => (by kernel_rfl)) (fun u => ih (i + 1) (by omega) (by omega) b1 A3 c3 (n2 + (writeC t col x).2.length) (writeC t col x).1 (l2 ++ (writeC t col x).2) hl3 (by simp [hn2]) (by rw [hf]; omega) u)
  refine Hs.run1 300 (fun _ => by kernel_rfl) fun b0 => ?_
  refine Hs.condP (room < 0) (by kernel_rfl) (fun h => absurd h hroom) (fun _ => ?_)
  refine Hs.run0 300 (fun _ => by kernel_rfl) ?_
  refine Hs.any [0] (by kernel_rfl) ?_
  refine Hs.run0 300 (fun _ => by kernel_rfl) ?_
  refine Hs.callV (fun w' H => within_any col0 w') (by kernel_rfl) ?_
  refine Hs.run1 300 (fun _ => by kernel_rfl) fun b1 => ?_
  refine Hs.nilS 5 1 (by kernel_rfl) ?_ (by kernel_rfl)
  refine Hs.loop (by kernel_rfl) ?_
  exact Hs.goto (loopAt Tryz.f49 0) [1, 2] [.b true 175 (penSC t (withinC col0) none 0 0), .s none 0 0 5 1 (([] : List Int).flatMap cu8)] [(2, .c (.v (.slice A b.length cap))), (3, .c (.v (.int .i64 room))), (9, .c (.p 0 0)), (19, .c (.v (.slice A b.length cap))), (20, .c (.v (.int .i64 b.length))), (21, .c (.v (.int .i64 (0 : Nat))))] (by kernel_rfl) (by decide) (by kernel_rfl) (by kernel_rfl) (fun _ => (by kernel_rfl)) (fun u => J b.length 0 (by omega) (by omega) b1 none 0 0 (withinC col0) [] rfl rfl (by rw [List.drop_zero]; omega) u)
end Go.Proofs.YtnfcdbjckdhieaaGreat

namespace Go.Proofs.YtnfcdbjckdhieaaGreat
set_option linter.all false
set_option maxRecDepth 100000
open Go.RowKit

theorem column_any (col : Int) (w : World) : Calls Tryz.prog 210 #[.int .i64 col] w fun e w' => e = .returned (.int .i64 (withinC col)) ∧ Only [] w w' := by
  refine Hs.enter Tryz.func210 [] [] [] [.c (.v (.int .i64 col))] (Mem.start0 w) (by kernel_rfl) (by kernel_rfl) ?_
  refine Hs.run0 300 (fun _ => by kernel_rfl) ?_
  refine Hs.bool 5 (decide (col < 0)) (by kernel_rfl) (fun h => ?_) (fun h => ?_)
  · refine Hs.rung0 [2] 300 (fun _ => by kernel_rfl) ?_
    refine Hs.condT (by kernel_rfl) ?_
    refine Hs.run0 300 (fun _ => by kernel_rfl) ?_
    exact Hs.ret (v := .int .i64 0) Tryz.func210 (by kernel_rfl) fun w' H => ⟨by simp only [withinC, h, Bool.true_or, if_true], H.only⟩
  · refine Hs.rung0 [2] 300 (fun _ => by kernel_rfl) ?_
    refine Hs.cond (decide (col > 65535)) (by kernel_rfl) (fun h2 => ?_) (fun h2 => ?_)
    · refine Hs.run0 300 (fun _ => by kernel_rfl) ?_
      exact Hs.ret (v := .int .i64 0) Tryz.func210 (by kernel_rfl) fun w' H => ⟨by simp only [withinC, h, h2, Bool.or_true, if_true], H.only⟩
    · refine Hs.run0 300 (fun _ => by kernel_rfl) ?_
      exact Hs.ret (v := .int .i64 col) Tryz.func210 (by kernel_rfl) fun w' H => ⟨by simp only [withinC, h, h2, Bool.or_false, Bool.false_eq_true, if_false], H.only⟩
def stepA (t : TM) (col c : Int) : Int := if c == 9 then col - col.tmod 8 + 8 else if hatC t c then col + 2 else if quietC c || (utfC c && t.has 42) then col else col + 1
def stepC (t : TM) (col c : Int) : Int := stepA t (withinC col) c
theorem stepA_rng {t : TM} {col c : Int} (h : 0 ≤ col ∧ col ≤ 65535) : 0 ≤ stepA t col c ∧ stepA t col c ≤ 65543 := by
  have e8 : col.tmod 8 = col % 8 := Int.tmod_eq_emod_of_nonneg h.1
  unfold stepA
  rw [e8]
  split
  · omega
  · split
    · omega
    · split <;> omega
theorem step_any (t : TM) (col c : Int) (w : World) : Calls Tryz.prog 211 #[t.val, .int .i64 col, .int .u8 c] w fun e w' => e = .returned (.int .i64 (stepC t col c)) ∧ Only [] w w' := by
  have hr := within_rng col
  refine Hs.enter Tryz.func211 [] [] [] [.g t.sc, .c (.v (.int .i64 col)), .c (.v (.int .u8 c))] (Mem.start0 w) (by kernel_rfl) (by kernel_rfl) ?_
  unfold stepC
  generalize hq : withinC col = q at hr
  have e8 : q.tmod 8 = q % 8 := Int.tmod_eq_emod_of_nonneg hr.1
  have e9 : IntKind.i64.wrap (IntKind.i64.wrap (q - q.tmod 8) + 8) = q - q.tmod 8 + 8 := by
    rw [e8, IntWalk.i64_in (q - q % 8) (by omega), IntWalk.i64_in _ (by omega)]
  have e2 : IntKind.i64.wrap (q + 2) = q + 2 := IntWalk.i64_in _ (by omega)
  have e1 : IntKind.i64.wrap (q + 1) = q + 1 := IntWalk.i64_in _ (by omega)
  refine Hs.run1 300 (fun _ => by kernel_rfl) fun b0 => ?_
  refine Hs.callV (v := .int .i64 q) (fun w' H => by rw [← hq]; exact column_any col w') (by kernel_rfl) ?_
  refine Hs.run0 300 (fun _ => by kernel_rfl) ?_
  refine Hs.cond (c == 9) (by kernel_rfl) (fun h1 => ?_) (fun h1 => ?_)
  · refine Hs.run0 300 (fun _ => by kernel_rfl) ?_
    exact Hs.ret (v := .int .i64 (IntKind.i64.wrap (IntKind.i64.wrap (q - q.tmod 8) + 8))) Tryz.func211 (by kernel_rfl) fun w' H => ⟨by simp only [stepA, h1, if_true, e9], H.only⟩
  refine Hs.run0 300 (fun _ => by kernel_rfl) ?_
  refine Hs.callV (fun w' H => hat_any t c w') (by kernel_rfl) ?_
  refine Hs.run0 300 (fun _ => by kernel_rfl) ?_
  refine Hs.cond (hatC t c) (by kernel_rfl) (fun h2 => ?_) (fun h2 => ?_)
  · refine Hs.run0 300 (fun _ => by kernel_rfl) ?_
    exact Hs.ret (v := .int .i64 (IntKind.i64.wrap (q + 2))) Tryz.func211 (by kernel_rfl) fun w' H => ⟨by simp only [stepA, h1, h2, Bool.false_eq_true, if_false, if_true, e2], H.only⟩
  refine Hs.run0 300 (fun _ => by kernel_rfl) ?_
  refine Hs.callV (fun w' H => quiet_any c w') (by kernel_rfl) ?_
  refine Hs.run0 300 (fun _ => by kernel_rfl) ?_
  refine Hs.cond (quietC c) (by kernel_rfl) (fun h3 => ?_) (fun h3 => ?_)
  · refine Hs.run0 300 (fun _ => by kernel_rfl) ?_
    refine Hs.cond (quietC c) (by kernel_rfl) (fun _ => ?_) (fun hx => absurd (h3.symm.trans hx) (by decide))
    refine Hs.run0 300 (fun _ => by kernel_rfl) ?_
    exact Hs.ret (v := .int .i64 q) Tryz.func211 (by kernel_rfl) fun w' H => ⟨by simp only [stepA, h1, h2, h3, Bool.true_or, Bool.false_eq_true, if_false, if_true], H.only⟩
  refine Hs.run0 300 (fun _ => by kernel_rfl) ?_
  refine Hs.bool 29 (utfC c) (by kernel_rfl) (fun h4 => ?_) (fun h4 => ?_)
  · refine Hs.rung0 [3] 300 (fun _ => by kernel_rfl) ?_
    refine Hs.callV (fun w' H => has_any t 42 w') (by kernel_rfl) ?_
    refine Hs.rung0 [3] 300 (fun _ => by kernel_rfl) ?_
    refine Hs.cond (t.has 42) (by kernel_rfl) (fun h5 => ?_) (fun h5 => ?_)
    · refine Hs.run0 300 (fun _ => by kernel_rfl) ?_
      exact Hs.ret (v := .int .i64 q) Tryz.func211 (by kernel_rfl) fun w' H => ⟨by simp only [stepA, h1, h2, h3, h4, h5, Bool.true_or, Bool.or_true, Bool.and_self, Bool.false_eq_true, if_false, if_true], H.only⟩
    · refine Hs.run0 300 (fun _ => by kernel_rfl) ?_
      exact Hs.ret (v := .int .i64 (IntKind.i64.wrap (q + 1))) Tryz.func211 (by kernel_rfl) fun w' H => ⟨by simp only [stepA, h1, h2, h3, h4, h5, Bool.or_false, Bool.and_false, Bool.false_eq_true, if_false, e1], H.only⟩
  · refine Hs.rung0 [3] 300 (fun _ => by kernel_rfl) ?_
    refine Hs.condF (by kernel_rfl) ?_
    refine Hs.run0 300 (fun _ => by kernel_rfl) ?_
    exact Hs.ret (v := .int .i64 (IntKind.i64.wrap (q + 1))) Tryz.func211 (by kernel_rfl) fun w' H => ⟨by simp only [stepA, h1, h2, h3, h4, Bool.or_false, Bool.false_and, Bool.false_eq_true, if_false, e1], H.only⟩
def colsC (t : TM) (col : Int) (l : List Int) : Int := l.foldl (stepC t) (withinC col)
theorem stepC_rng {t : TM} {col c : Int} : 0 ≤ stepC t col c ∧ stepC t col c ≤ 65543 := stepA_rng (within_rng col)
theorem cols_rng {t : TM} : ∀ (l : List Int) (x : Int), 0 ≤ x ∧ x ≤ 65543 → 0 ≤ l.foldl (stepC t) x ∧ l.foldl (stepC t) x ≤ 65543
  | [], x, h => h
  | c :: l, x, _ => cols_rng l _ (stepC_rng (t := t) (col := x) (c := c))
theorem colsC_rng {t : TM} {col : Int} {l : List Int} : 0 ≤ colsC t col l ∧ colsC t col l ≤ 65543 := cols_rng l _ (by have := within_rng col; omega)
theorem cols_any (t : TM) (col : Int) (A : Option Addr) (cap : Nat) (b : List Int) (w : World) (hb : RdX cu8 w A b) (hlen : b.length ≤ maxLen) : Calls Tryz.prog 193 #[t.val, .int .i64 col, .slice A b.length cap] w fun e w' => e = .returned (.int .i64 (colsC t col b)) ∧ Only [] w w' := by
  have J : ∀ (d i : Nat), b.length - i = d → i ≤ b.length → ∀ (b0 : Nat) (x : Int), colsC t col b = (b.drop i).foldl (stepC t) x → ∀ (u : Nat → Value), Hs Tryz.prog 193 (fun e w' => e = .returned (.int .i64 (colsC t col b)) ∧ Only [] w w') (Tryz.f193).ntmps w [] [b0] ⟨.no, loopAt Tryz.f193 0, pins [(1, .c (.v (.int .i64 x))), (3, .c (.p 0 0)), (11, .c (.v (.slice A b.length cap))), (12, .c (.v (.int .i64 b.length))), (13, .c (.v (.int .i64 i)))] (.vals u), [.b true 26 t.sc]⟩ := by
    intro d
    induction d with
    | zero =>
      intro i hd hi b0 x hx u
      obtain rfl : i = b.length := by omega
      rw [List.drop_length] at hx
      refine Hs.run0 300 (fun _ => by kernel_rfl) ?_
      refine Hs.condP ((b.length : Int) < (b.length : Int)) (by kernel_rfl) (fun h => by omega) (fun h => ?_)
      refine Hs.run0 300 (fun _ => by kernel_rfl) ?_
      exact Hs.ret (v := .int .i64 x) Tryz.func193 (by kernel_rfl) fun w' H => ⟨by rw [hx]; rfl, H.only⟩
    | succ d ih =>
      intro i hd hi b0 x hx u
      have hil : i < b.length := by omega
      obtain ⟨y, hy⟩ : ∃ y, b[i]? = some y := ⟨_, List.getElem?_eq_getElem hil⟩
      have hdr : b.drop i = y :: b.drop (i + 1) := by
        rw [List.drop_eq_getElem_cons hil]
        rw [List.getElem?_eq_getElem hil] at hy
        injection hy with hy
        rw [hy]
      rw [hdr, List.foldl_cons] at hx
      obtain ⟨ab, aoff, hA, _, _⟩ := hb (by omega)
      subst hA
      refine Hs.run0 300 (fun _ => by kernel_rfl) ?_
      refine Hs.condP ((i : Int) < (b.length : Int)) (by kernel_rfl) (fun h => ?_) (fun h => by omega)
      refine Hs.run0 300 (fun _ => by kernel_rfl) ?_
      refine Hs.idx (b := ab) (off := aoff) (c := cap) elemU8 hil (by kernel_rfl) ?_
      refine Hs.ldc (E' := 5) (b := ab) (off := aoff + i * 1) (.int .u8 y) (by kernel_rfl) (fun w' H => u8_cell (hb.only H.only) hy) (by kernel_rfl) ?_
      refine Hs.run0 300 (fun _ => by kernel_rfl) ?_
      refine Hs.callV (fun w' H => step_any t x y w') (by kernel_rfl) ?_
      refine Hs.run0 300 (fun _ => by kernel_rfl) ?_
      refine Hs.slot 13 (.c (.v (.int .i64 (i + 1 : Nat)))) rfl ((by kernel_rfl : _ = Value.int .i64 (IntKind.i64.wrap ((i : Int) + 1))).trans (wrap_nextJ hlen)) ?_
      refine Hs.loop (by kernel_rfl) ?_
      exact Hs.goto (loopAt Tryz.f193 0) [0] [.b true 26 t.sc] [(1, .c (.v (.int .i64 (stepC t x y)))), (3, .c (.p 0 0)), (11, .c (.v (.slice (some ⟨ab, aoff, none⟩) b.length cap))), (12, .c (.v (.int .i64 b.length))), (13, .c (.v (.int .i64 (i + 1 : Nat))))] (by kernel_rfl) (by decide) (by kernel_rfl) (by kernel_rfl) (fun _ => (by kernel_rfl)) (fun u => ih (i + 1) (by omega) (by omega) b0 _ hx u)
  refine Hs.enter Tryz.func193 [] [] [] [.g t.sc, .c (.v (.int .i64 col)), .c (.v (.slice A b.length cap))] (Mem.start0 w) (by kernel_rfl) (by kernel_rfl) ?_
  refine Hs.run1 300 (fun _ => by kernel_rfl) fun b0 => ?_
  refine Hs.callV (fun w' H => column_any col w') (by kernel_rfl) ?_
  refine Hs.run0 300 (fun _ => by kernel_rfl) ?_
  refine Hs.loop (by kernel_rfl) ?_
  exact Hs.goto (loopAt Tryz.f193 0) [0] [.b true 26 t.sc] [(1, .c (.v (.int .i64 (withinC col)))), (3, .c (.p 0 0)), (11, .c (.v (.slice A b.length cap))), (12, .c (.v (.int .i64 b.length))), (13, .c (.v (.int .i64 (0 : Nat))))] (by kernel_rfl) (by decide) (by kernel_rfl) (by kernel_rfl) (fun _ => (by kernel_rfl)) (fun u => J b.length 0 (by omega) (by omega) b0 _ rfl u)
end Go.Proofs.YtnfcdbjckdhieaaGreat

namespace Go.Proofs.YtnfcdbjckdhieaaGreat
set_option linter.all false
set_option maxRecDepth 100000
open Go.RowKit

def a32 (z : Int) : Int := IntKind.u64.wrap (((BitVec.ofInt 64 z) &&& (BitVec.ofInt 64 4294967295)).toNat)
def s32 (z : Int) : Int := z.fdiv (2 ^ 32)
def m64t (x y : Int) : Int := IntKind.u64.wrap (IntKind.u64.wrap (s32 x * a32 y) + s32 (IntKind.u64.wrap (a32 x * a32 y)))
def m64w (x y : Int) : Int := IntKind.u64.wrap (a32 (m64t x y) + IntKind.u64.wrap (a32 x * s32 y))
def m64hi (x y : Int) : Int := IntKind.u64.wrap (IntKind.u64.wrap (IntKind.u64.wrap (s32 x * s32 y) + s32 (m64t x y)) + s32 (m64w x y))
theorem a32_small (x : Nat) (h : x < 4294967296) : a32 x = x := by
  unfold a32
  have h1 : (BitVec.ofInt 64 (x : Int)).toNat = x := by simp [BitVec.toNat_ofInt]; omega
  have h2 : ((BitVec.ofInt 64 (x : Int)) &&& (BitVec.ofInt 64 4294967295)).toNat = x := by
    rw [BitVec.toNat_and, h1]
    show x &&& 4294967295 = x
    have := Nat.and_two_pow_sub_one_eq_mod x 32
    rw [show (2 ^ 32 - 1 : Nat) = 4294967295 from rfl] at this
    rw [this]
    exact Nat.mod_eq_of_lt h
  rw [h2]
  show ((x : Int) % (18446744073709551616 : Int)) = _
  exact Int.emod_eq_of_lt (by omega) (by omega)
theorem s32_small (x : Nat) (h : x < 4294967296) : s32 x = 0 := by
  unfold s32
  rw [Int.fdiv_eq_ediv_of_nonneg _ (by decide)]
  exact Int.ediv_eq_zero_of_lt (by omega) (by show (x : Int) < 4294967296; omega)
theorem u64_small (x : Nat) (h : x < 18446744073709551616) : IntKind.u64.wrap (x : Int) = x := by
  show ((x : Int) % (18446744073709551616 : Int)) = _
  exact Int.emod_eq_of_lt (by omega) (by omega)
theorem m64_small (x y : Nat) (hx : x < 4294967296) (hy : y < 4294967296) (hxy : x * y < 4294967296) : m64hi x y = 0 ∧ IntKind.u64.wrap ((x : Int) * (y : Int)) = ((x * y : Nat) : Int) := by
  have e1 : IntKind.u64.wrap ((x : Int) * (y : Int)) = ((x * y : Nat) : Int) := by
    rw [← Int.natCast_mul]; exact u64_small _ (by omega)
  have e0 : IntKind.u64.wrap 0 = 0 := rfl
  have et : m64t x y = 0 := by
    unfold m64t
    rw [a32_small x hx, a32_small y hy, s32_small x hx, e1, s32_small _ hxy, Int.zero_mul, e0]; rfl
  have ew : m64w x y = 0 := by
    unfold m64w
    rw [et, a32_small x hx, s32_small y hy, Int.mul_zero, e0]; rfl
  refine ⟨?_, e1⟩
  unfold m64hi
  rw [et, ew, s32_small x hx, Int.zero_mul, e0]; rfl
theorem mul64_any (x y : Nat) (hx : x < 4294967296) (hy : y < 4294967296) (hxy : x * y < 4294967296) (w : World) : Calls Tryz.prog 222 #[.int .u64 x, .int .u64 y] w fun e w' => e = .returned (.tuple #[.int .u64 0, .int .u64 (x * y : Nat)]) ∧ Only [] w w' := by
  obtain ⟨h1, h2⟩ := m64_small x y hx hy hxy
  refine Hs.enter Tryz.func222 [] [] [] [.c (.v (.int .u64 x)), .c (.v (.int .u64 y))] (Mem.start0 w) (by kernel_rfl) (by kernel_rfl) ?_
  refine Hs.run0 300 (fun _ => by kernel_rfl) ?_
  exact Hs.ret (v := .tuple #[.int .u64 (m64hi x y), .int .u64 (IntKind.u64.wrap ((x : Int) * (y : Int)))]) Tryz.func222 (by kernel_rfl) fun w' H => ⟨by rw [h1, h2], H.only⟩
theorem mul_any (x y : Nat) (hx : x < 4294967296) (hy : y < 4294967296) (hxy : x * y < 4294967296) (w : World) : Calls Tryz.prog 212 #[.int .u64 x, .int .u64 y] w fun e w' => e = .returned (.tuple #[.int .u64 0, .int .u64 (x * y : Nat)]) ∧ Only [] w w' := by
  refine Hs.enter Tryz.func212 [] [] [] [.c (.v (.int .u64 x)), .c (.v (.int .u64 y))] (Mem.start0 w) (by kernel_rfl) (by kernel_rfl) ?_
  refine Hs.run0 300 (fun _ => by kernel_rfl) ?_
  refine Hs.condF (by kernel_rfl) ?_
  refine Hs.run0 300 (fun _ => by kernel_rfl) ?_
  refine Hs.callV (fun w' H => mul64_any x y hx hy hxy w') (by kernel_rfl) ?_
  refine Hs.run0 300 (fun _ => by kernel_rfl) ?_
  exact Hs.ret (v := .tuple #[.int .u64 0, .int .u64 (x * y : Nat)]) Tryz.func212 (by kernel_rfl) fun w' H => ⟨rfl, H.only⟩
end Go.Proofs.YtnfcdbjckdhieaaGreat

namespace Go.Proofs.YtnfcdbjckdhieaaGreat
set_option linter.all false
set_option maxRecDepth 100000
open Go.RowKit

section
variable {P : Program} {f : FuncId} {R : Ending → World → Prop} {n : Nat} {w0 : World} {L : List Nat} {β : List Nat} {m : SM} {tS E size bytes : Nat}
theorem run_shm (ht : ElemT P tS E size bytes) {g off n cap i j : Nat} (hi : i ≤ j) (hj : j ≤ cap) (w : World) : (Instr.sliceAt tS (.slice (some ⟨g, off, none⟩) n cap) none (some (.int .i64 i)) (some (.int .i64 j))).run P w = .ok (.slice (some ⟨g, off, none⟩) i j) w := by
  have hu : P.underlying tS = some (.slice (P.elem tS)) := by rw [ht.elem]; exact ht.ht
  rw [run_sliceAt_slice (h := hu), run_slice_hm (ht := hu) (h0 := by omega) (h2 := by omega) (h3 := by omega), ht.elem, ht.sizeOf]
  simp only [Result.andThen_ok, sliced, Int.toNat_natCast]
  split <;> simp [Addr.add_mid]
/-- s[:i:j] -/
theorem Hs.shm (ht : ElemT P tS E size bytes) {g off len cap i j : Nat} (hi : i ≤ j) (hj : j ≤ cap) (hs : semOf n β m = some (valS (Instr.sliceAt tS (.slice (some ⟨g, off, none⟩) len cap) none (some (.int .i64 i)) (some (.int .i64 j))))) (h : Hs P f R n w0 L β (m.put (dstOf m) (.c (.v (.slice (some ⟨g, off, none⟩) i j))) m.hp)) : Hs P f R n w0 L β m :=
  Hs.opV (.c (.v (.slice (some ⟨g, off, none⟩) i j))) hs rfl (fun w _ => run_shm ht hi hj w) h
theorem Hs.takeShi (j : Nat) (ht : ElemT P tS E size bytes) {rd : List Nat} {g off len cap i : Nat} (hi : i ≤ cap) (hs : semAt j n β m = some (valS (Instr.sliceAt tS (.slice (some ⟨g, off, none⟩) len cap) none (some (.int .i64 i)) none), rd)) (h : Hs P f R n w0 L β (takeM j (.c (.v (.slice (some ⟨g, off, none⟩) i cap))) m)) : Hs P f R n w0 L β m :=
  Hs.takeV j (.c (.v (.slice (some ⟨g, off, none⟩) i cap))) hs rfl (fun w _ => run_shi ht hi w) h
end
/-- Bytes that are read; there is room for them. -/
def RdU (w : World) (A : Option Addr) (c : Nat) (l : List Int) : Prop := RdX cu8 w A l ∧ l.length ≤ c ∧ c ≤ maxLen
/-- Bytes that a call has made, or that are none: they stay. -/
def NewP (w : World) (v : Option Addr → Nat → Value) (l : List Int) : Ending → World → Prop := fun e w' => ∃ x : Option Addr × Nat, e = .returned (v x.1 x.2) ∧ Only [] w w' ∧ ∀ L : List Nat, (∀ y ∈ L, y < w.heap.size) → Keeps w' L (fun w => RdU w x.1 x.2 l)
theorem ownX_keeps {w w' : World} {A : Option Addr} {cap : Nat} {l : List Int} {E : Nat} (h : OwnX cu8 E 1 w' w.heap.size (.slice A l.length cap) l) : ∀ L : List Nat, (∀ y ∈ L, y < w.heap.size) → Keeps w' L (fun w => RdU w A cap l) := fun L hL => by
  obtain ⟨A1, cap1, e1, hc1, hc2, hr, hA⟩ := h.form
  injection e1 with e1 e2 e3
  subst e1; subst e3
  refine (rdX_keeps hr fun a ha hx => ?_).and fun _ _ => ⟨hc1, hc2⟩
  have h1 := (hA a ha).1
  have h2 := hL _ hx
  omega
theorem OwnU.new {w : World} {v : Option Addr → Nat → Value} {l : List Int} {e : Ending} {w' : World} (h : OwnU l w v e w') : NewP w v l e w' := by
  obtain ⟨A, cap, rfl, O, hO⟩ := h
  exact ⟨(A, cap), rfl, O, ownX_keeps hO⟩
theorem rd_rdX {w : World} {A : Option Addr} {l : List Int} (h : Rd w A l) : RdX cu8 w A l := fun h0 => by
  obtain ⟨b, off, e, hb, hc⟩ := h h0
  refine ⟨b, off, e, hb, fun j u hj => ?_⟩
  have hl : l.flatMap cu8 = l.map (.int .u8) := by
    clear h h0 hc hj
    induction l with
    | nil => rfl
    | cons x l ih => simp only [List.flatMap_cons, ih]; rfl
  rw [hl, List.getElem?_map] at hj
  cases hx : l[j]? with
  | none => rw [hx] at hj; cases hj
  | some x => rw [hx] at hj; injection hj with hj; subst hj; exact hc j x hx
section
variable {P : Program} {f : FuncId} {R : Ending → World → Prop} {n : Nat} {w0 : World} {L : List Nat} {β : List Nat} {m : SM}
/-- A call that makes bytes that stay. -/
theorem Hs.callU {v : Option Addr → Nat → Value} {l : List Int} {F : FuncId} {args : Array Value} (hC : ∀ w, Mem w0 L β m.hp w → Calls P F args w (NewP w v l)) (hc : callOf P n β m = some (F, args)) (hrd : rdOf m = [])
    (h : ∀ (x : Option Addr × Nat) w1 L1, Back w0 L w1 L1 → (∀ L' : List Nat, (∀ y ∈ L', y < w0.heap.size) → Keeps w1 (L' ++ L1) (fun w => RdU w x.1 x.2 l)) → Hs P f R n w1 L1 β (m.put (dstOf m) (.c (.v (v x.1 x.2))) m.hp)) : Hs P f R n w0 L β m :=
  Hs.callE (fun x : Option Addr × Nat => v x.1 x.2) (fun x w w' => ∀ L : List Nat, (∀ y ∈ L, y < w.heap.size) → Keeps w' L (fun w => RdU w x.1 x.2 l)) hC hc hrd fun x w w1 H O q B hL => h x w1 _ B fun L' hL' => q _ fun y hy => by
    rcases List.mem_append.1 hy with h | h
    · exact Nat.lt_of_lt_of_le (hL' y h) H.only.size
    · exact hL y h
theorem new_fin {w1 w' : World} {L1 : List Nat} {hp : List HB} {Q : World → Prop} (N : ∀ L' : List Nat, (∀ y ∈ L', y < w0.heap.size) → Keeps w1 (L' ++ L1) Q) (H : Mem w1 L1 β hp w') : ∀ L' : List Nat, (∀ y ∈ L', y < w0.heap.size) → Keeps w' L' Q := fun L' hL =>
  (N L' hL).goN H.only (fun x hx => .inl (by simp [hx])) (fun x hx => .inl (by simp [hx]))
end
def rep3 (n : Nat) : List Int := (List.replicate n [8, 32, 8]).flatten
theorem rep3_len (n : Nat) : (rep3 n).length = 3 * n := by
  induction n with
  | zero => rfl
  | succ n ih => simp only [rep3, List.replicate_succ, List.flatten_cons, List.length_append] at *; simp at *; omega
theorem rep3_add (a b : Nat) : rep3 a ++ rep3 b = rep3 (a + b) := by simp [rep3, ← List.flatten_append, List.replicate_append_replicate]
theorem rep3_take {k n : Nat} (h : k ≤ n) : (rep3 n).take (3 * k) = rep3 k := by
  obtain ⟨d, rfl⟩ := Nat.exists_eq_add_of_le h
  rw [← rep3_add]
  exact List.take_left' (rep3_len k)
theorem cu8_flat (l : List Int) : (l.flatMap cu8).length = l.length := by
  induction l with
  | nil => rfl
  | cons x l ih => rw [List.flatMap_cons, List.length_append, ih, cu8_len, List.length_cons]; omega
theorem cu8_take (l : List Int) (k : Nat) : (l.flatMap cu8).take k = (l.take k).flatMap cu8 := by
  have h : ∀ l : List Int, l.flatMap cu8 = l.map (.int .u8) := fun l => by
    induction l with
    | nil => rfl
    | cons x l ih => simp only [List.flatMap_cons, ih]; rfl
  rw [h, h, List.map_take]
theorem cu8_one1 (l : List Int) : ∀ v ∈ l.flatMap cu8, v.oneCell' = true := fun v hv => by
  obtain ⟨x, _, hx⟩ := List.mem_flatMap.1 hv
  exact cu8_one x v hx
theorem splice_take {vs : List Value} {k q n : Nat} (hv : vs.length = 3 * n) (hk : vs.take (3 * k) = (rep3 k).flatMap cu8) (hle : k + q ≤ n) : (splice vs (3 * k) ((rep3 q).flatMap cu8)).take (3 * (k + q)) = (rep3 (k + q)).flatMap cu8 ∧ (splice vs (3 * k) ((rep3 q).flatMap cu8)).length = 3 * n := by
  have hl : ((rep3 q).flatMap cu8).length = 3 * q := by rw [cu8_flat, rep3_len]
  have hl2 : ((rep3 k).flatMap cu8).length = 3 * k := by rw [cu8_flat, rep3_len]
  unfold splice
  refine ⟨?_, ?_⟩
  · rw [hk, ← List.append_assoc, ← rep3_add, List.flatMap_append]
    exact List.take_left' (by rw [List.length_append, hl, hl2]; omega)
  · simp only [List.length_append, List.length_take, List.length_drop, hl, hv]
    omega
theorem repeat_any (A : Option Addr) (cap n : Nat) (h0 : 1 ≤ n) (hn : n ≤ 70000) (w : World) (hr : RdX cu8 w A [8, 32, 8]) : Calls Tryz.prog 194 #[.slice A 3 cap, .int .i64 n] w (NewP w (fun A c => .slice A (3 * n) c) (rep3 n)) := by
  obtain ⟨ab, ao, hA, _, hcell⟩ := hr (by decide)
  subst hA
  have J : ∀ (d k : Nat), n - k ≤ d → 1 ≤ k → k ≤ n → ∀ (g C ck : Nat) (vs : List Value), 1 ≤ ck → ck ≤ 70000 → 3 * n ≤ C → vs.length = 3 * n → vs.take (3 * k) = (rep3 k).flatMap cu8 → ∀ (u : Nat → Value), Hs Tryz.prog 194 (NewP w (fun A c => .slice A (3 * n) c) (rep3 n)) (Tryz.f194).ntmps w [] [0] ⟨.no, loopAt Tryz.f194 0, pins [(7, .c (.v (.int .i64 (3 * n : Nat)))), (8, .c (.v (.int .i64 (3 * ck : Nat)))), (9, .c (.v (.slice (some ⟨g, 0, none⟩) (3 * n) (3 * n)))), (10, .c (.v (.int .i64 (3 * k : Nat))))] (.vals u), [.s (some ⟨g, 0, none⟩) C (3 * n) 5 1 vs]⟩ := by
    intro d
    induction d with
    | zero =>
      intro k hd h1 h2 g C ck vs h3 h4 h5 hv hk u
      obtain rfl : k = n := by omega
      rw [List.take_of_length_le (by omega)] at hk
      subst hk
      refine Hs.run0 300 (fun _ => by kernel_rfl) ?_
      refine Hs.condP (((3 * k : Nat) : Int) < ((3 * k : Nat) : Int)) (by kernel_rfl) (fun h => by omega) (fun h => ?_)
      refine Hs.run0 300 (fun _ => by kernel_rfl) ?_
      exact Hs.ret (v := .slice (some ⟨g, 0, none⟩) (3 * k) (3 * k)) Tryz.func194 (by kernel_rfl) fun w' H => ⟨(some ⟨g, 0, none⟩, 3 * k), rfl, H.only, fun L hL => by
        refine (rdX_keeps (H.rdX (A := some ⟨g, 0, none⟩) (cap := C) (E := 5) (size := 1) (n := 3 * k) 0 (rep3_len k) (by kernel_rfl)) fun a ha hx => ?_).and fun _ _ => ⟨by rw [rep3_len]; exact Nat.le_refl _, by unfold maxLen; omega⟩
        injection ha with ha
        subst ha
        have h6 := hL _ hx
        rcases H.own 0 (.s (some ⟨g, 0, none⟩) C (3 * k) 5 1 ((rep3 k).flatMap cu8)) g (by kernel_rfl) rfl rfl with h7 | h7
        · cases h7
        · simp at h6; omega⟩
    | succ d ih =>
      intro k hd h1 h2 g C ck vs h3 h4 h5 hv hk u
      by_cases hkn : k = n
      · exact ih k (by omega) h1 h2 g C ck vs h3 h4 h5 hv hk u
      refine Hs.run0 300 (fun _ => by kernel_rfl) ?_
      refine Hs.condP (((3 * k : Nat) : Int) < ((3 * n : Nat) : Int)) (by kernel_rfl) (fun h => ?_) (fun h => by omega)
      refine Hs.run0 300 (fun _ => by kernel_rfl) ?_
      obtain ⟨q0, hq0⟩ : ∃ q, q = min ck k := ⟨_, rfl⟩
      obtain ⟨q1, hq1⟩ : ∃ q, q = min q0 (n - k) := ⟨_, rfl⟩
      have e11 : (if ((3 * ck : Nat) : Int) < ((3 * k : Nat) : Int) then ((3 * ck : Nat) : Int) else ((3 * k : Nat) : Int)) = ((3 * q0 : Nat) : Int) := by split <;> omega
      refine Hs.slot 11 (.c (.v (.int .i64 (3 * q0 : Nat)))) rfl ((by kernel_rfl : _ = Value.int .i64 (if ((3 * ck : Nat) : Int) < ((3 * k : Nat) : Int) then ((3 * ck : Nat) : Int) else ((3 * k : Nat) : Int))).trans (congrArg (Value.int .i64) e11)) ?_
      refine Hs.any [] (by kernel_rfl) ?_
      refine Hs.run0 300 (fun _ => by kernel_rfl) ?_
      refine Hs.takeSlo 3 elemU8 (rd := []) (g := g) (off := 0) (len := 3 * n) (cap := 3 * n) (i := 3 * k) (by omega) (by omega) (by kernel_rfl) ?_
      refine Hs.takeShi 6 elemU8 (rd := []) (g := g) (off := 0) (len := 3 * n) (cap := 3 * n) (i := 3 * q0) (by omega) (by kernel_rfl) ?_
      refine Hs.run0 300 (fun _ => by kernel_rfl) ?_
      have hs := splice_take hv hk (q := q1) (by omega)
      have hsrc : ∀ j v, ((rep3 q1).flatMap cu8)[j]? = some v → vs[j]? = some v := fun j v hj => by
        have h6 : ((rep3 q1).flatMap cu8) = vs.take (3 * q1) := by
          rw [← rep3_take (k := q1) (n := k) (by omega), ← cu8_take, ← hk, List.take_take, Nat.min_eq_left (by omega)]
        rw [h6, List.getElem?_take] at hj
        split at hj
        · exact hj
        · cases hj
      refine Hs.cpS (g := g) (cap := C) (nl := 3 * n) (vs := vs) (b := g) (so := 0) 0 elemU8 (by kernel_rfl) (3 * k) (3 * n - 3 * k) (3 * n - 3 * k) (3 * q0) (3 * n) (3 * q1) 3 (by show _ = min _ _; omega) ((rep3 q1).flatMap cu8) (by rw [cu8_flat, rep3_len]; omega) (by omega) (by kernel_rfl) (by kernel_rfl) (fun w' H j v hj => by
        have h7 := H.lies 0 _ (by kernel_rfl : _ = some (HB.s (some ⟨g, 0, none⟩) C (3 * n) 5 1 vs))
        have h8 := World.ownsRow.cells h7 (g := g) rfl j v (hsrc j v hj)
        rw [Addr.add_mid] at h8; exact h8) (cu8_one1 _) ?_
      refine Hs.run0 300 (fun _ => by kernel_rfl) ?_
      have e10 : IntKind.i64.wrap (((3 * k : Nat) : Int) + ((3 * q1 : Nat) : Int)) = ((3 * (k + q1) : Nat) : Int) := by rw [IntWalk.i64_in _ (by omega)]; omega
      refine Hs.slot 10 (.c (.v (.int .i64 (3 * (k + q1) : Nat)))) rfl ((by kernel_rfl : _ = Value.int .i64 (IntKind.i64.wrap (((3 * k : Nat) : Int) + ((3 * q1 : Nat) : Int)))).trans (congrArg (Value.int .i64) e10)) ?_
      refine Hs.loop (by kernel_rfl) ?_
      exact Hs.goto (loopAt Tryz.f194 0) [0] [.s (some ⟨g, 0, none⟩) C (3 * n) 5 1 (splice vs (3 * k * 1) ((rep3 q1).flatMap cu8))] [(7, .c (.v (.int .i64 (3 * n : Nat)))), (8, .c (.v (.int .i64 (3 * ck : Nat)))), (9, .c (.v (.slice (some ⟨g, 0, none⟩) (3 * n) (3 * n)))), (10, .c (.v (.int .i64 (3 * (k + q1) : Nat))))] (by kernel_rfl) (by decide) (by kernel_rfl) (by kernel_rfl) (fun _ => (by kernel_rfl)) (fun u => ih (k + q1) (by omega) (by omega) (by omega) g C ck _ h3 h4 h5 (by rw [Nat.mul_one]; exact hs.2) (by rw [Nat.mul_one]; exact hs.1) u)
  have K : ∀ (ck : Nat), 1 ≤ ck → ck ≤ 70000 → ∀ (u : Nat → Value), Hs Tryz.prog 194 (NewP w (fun A c => .slice A (3 * n) c) (rep3 n)) (Tryz.f194).ntmps w [] [] ⟨.no, atR Tryz.f194 16, pins [(0, .c (.v (.slice (some ⟨ab, ao, none⟩) 3 cap))), (7, .c (.v (.int .i64 (3 * n : Nat)))), (8, .c (.v (.int .i64 (3 * ck : Nat))))] (.vals u), []⟩ := by
    intro ck h1 h2 u
    refine Hs.run0 300 (fun _ => by kernel_rfl) ?_
    refine Hs.mkNZ (q := 3 * n) (t := 27) (E := 5) (ps := #[3]) Tryz.func213 (by kernel_rfl) (by kernel_rfl) (by kernel_rfl) (by kernel_rfl) (by kernel_rfl) (by omega) (by kernel_rfl) (by kernel_rfl) fun g C vs hv hc1 hc2 => ?_
    refine Hs.run0 300 (fun _ => by kernel_rfl) ?_
    refine Hs.shm elemU8 (g := g) (off := 0) (len := 3 * n) (cap := C) (i := 3 * n) (j := 3 * n) (Nat.le_refl _) (by omega) (by kernel_rfl) ?_
    refine Hs.run0 300 (fun _ => by kernel_rfl) ?_
    refine Hs.cpS (g := g) (cap := C) (nl := 3 * n) (vs := vs) (b := ab) (so := ao) 0 elemU8 (by kernel_rfl) 0 (3 * n) (3 * n) 3 cap 3 3 (by show _ = min _ _; omega) ([8, 32, 8].flatMap cu8) rfl (by omega) (by kernel_rfl) (by kernel_rfl) (fun w' H j v hj => by
      obtain ⟨b2, o2, e2, _, hc2⟩ := (hr.only H.only) (by decide)
      injection e2 with e2
      injection e2 with e2 e3
      subst e2; subst e3
      exact hc2 j v hj) (cu8_one1 _) ?_
    refine Hs.run0 300 (fun _ => by kernel_rfl) ?_
    refine Hs.loop (by kernel_rfl) ?_
    have hs := splice_take (vs := vs) (k := 0) (q := 1) (n := n) (by omega) rfl (by omega)
    exact Hs.goto (loopAt Tryz.f194 0) [0] [.s (some ⟨g, 0, none⟩) C (3 * n) 5 1 (splice vs (0 * 1) ([8, 32, 8].flatMap cu8))] [(7, .c (.v (.int .i64 (3 * n : Nat)))), (8, .c (.v (.int .i64 (3 * ck : Nat)))), (9, .c (.v (.slice (some ⟨g, 0, none⟩) (3 * n) (3 * n)))), (10, .c (.v (.int .i64 (3 * 1 : Nat))))] (by kernel_rfl) (by decide) (by kernel_rfl) (by kernel_rfl) (fun _ => (by kernel_rfl)) (fun u => J n 1 (by omega) (by omega) h0 g C ck _ h1 h2 hc1 hs.2 hs.1 u)
  refine Hs.enter Tryz.func194 [] [] [] [.c (.v (.slice (some ⟨ab, ao, none⟩) 3 cap)), .c (.v (.int .i64 n))] (Mem.start0 w) (by kernel_rfl) (by kernel_rfl) ?_
  refine Hs.run0 300 (fun _ => by kernel_rfl) ?_
  refine Hs.cond ((n : Int) == 0) (by kernel_rfl) (fun h => absurd h (by simp; omega)) (fun _ => ?_)
  refine Hs.run0 300 (fun _ => by kernel_rfl) ?_
  refine Hs.condP ((n : Int) < 0) (by kernel_rfl) (fun h => by omega) (fun _ => ?_)
  refine Hs.run0 300 (fun _ => by kernel_rfl) ?_
  refine Hs.slot 23 (.c (.v (.int .u64 n))) rfl ((by kernel_rfl : _ = Value.int .u64 (IntKind.u64.wrap (n : Int))).trans (congrArg (Value.int .u64) (u64_small n (by omega)))) ?_
  refine Hs.callV (fun w' H => mul_any 3 n (by omega) (by omega) (by omega) w') (by kernel_rfl) ?_
  refine Hs.rung0 [2] 300 (fun _ => by kernel_rfl) ?_
  refine Hs.condP (((3 * n : Nat) : Int) > 9223372036854775807) (by kernel_rfl) (fun h => by omega) (fun _ => ?_)
  refine Hs.run0 300 (fun _ => by kernel_rfl) ?_
  have e7 : IntKind.i64.wrap ((3 * n : Nat) : Int) = ((3 * n : Nat) : Int) := IntWalk.i64_in _ (by omega)
  refine Hs.slot 7 (.c (.v (.int .i64 (3 * n : Nat)))) rfl ((by kernel_rfl : _ = Value.int .i64 (IntKind.i64.wrap ((3 * n : Nat) : Int))).trans (congrArg (Value.int .i64) e7)) ?_
  refine Hs.condF (by kernel_rfl) ?_
  refine Hs.run0 300 (fun _ => by kernel_rfl) ?_
  refine Hs.condP (((3 * n : Nat) : Int) > 8192) (by kernel_rfl) (fun h => ?_) (fun _ => ?_)
  · refine Hs.run0 300 (fun _ => by kernel_rfl) ?_
    refine Hs.condF (by kernel_rfl) ?_
    refine Hs.runR0 16 [] 300 (fun _ => by kernel_rfl) ?_
    exact Hs.goto (atR Tryz.f194 16) [] [] [(0, .c (.v (.slice (some ⟨ab, ao, none⟩) 3 cap))), (7, .c (.v (.int .i64 (3 * n : Nat)))), (8, .c (.v (.int .i64 (3 * 2730 : Nat))))] (by kernel_rfl) (by decide) (by kernel_rfl) (by kernel_rfl) (fun _ => (by kernel_rfl)) (fun u => K 2730 (by omega) (by omega) u)
  · refine Hs.runR0 16 [] 300 (fun _ => by kernel_rfl) ?_
    exact Hs.goto (atR Tryz.f194 16) [] [] [(0, .c (.v (.slice (some ⟨ab, ao, none⟩) 3 cap))), (7, .c (.v (.int .i64 (3 * n : Nat)))), (8, .c (.v (.int .i64 (3 * n : Nat))))] (by kernel_rfl) (by decide) (by kernel_rfl) (by kernel_rfl) (fun _ => (by kernel_rfl)) (fun u => K n (by omega) (by omega) u)
/-- What takes characters off the screen. -/
def rubC (t : TM) (col : Int) (rest gone : List Int) : List Int := rep3 (colsC t (colsC t col rest) gone - colsC t col rest).toNat
theorem rub_le (t : TM) (col : Int) (rest gone : List Int) : (rubC t col rest gone).length ≤ 200000 := by
  have h1 := colsC_rng (t := t) (col := colsC t col rest) (l := gone)
  have h2 := colsC_rng (t := t) (col := col) (l := rest)
  unfold rubC
  rw [rep3_len]
  omega
theorem rub_any (t : TM) (col : Int) (A B : Option Addr) (c1 c2 : Nat) (rest gone : List Int) (w : World) (ha : RdX cu8 w A rest) (hb : RdX cu8 w B gone) (h1 : rest.length ≤ maxLen) (h2 : gone.length ≤ maxLen) : Calls Tryz.prog 164 #[t.val, .int .i64 col, .slice A rest.length c1, .slice B gone.length c2] w (NewP w (fun A c => .slice A (rubC t col rest gone).length c) (rubC t col rest gone)) := by
  have r1 := colsC_rng (t := t) (col := colsC t col rest) (l := gone)
  have r2 := colsC_rng (t := t) (col := col) (l := rest)
  refine Hs.enter Tryz.func164 [] [] [] [.g t.sc, .c (.v (.int .i64 col)), .c (.v (.slice A rest.length c1)), .c (.v (.slice B gone.length c2))] (Mem.start0 w) (by kernel_rfl) (by kernel_rfl) ?_
  unfold rubC
  generalize hx : colsC t col rest = x at r1 r2
  generalize hy : colsC t x gone = y at r1
  refine Hs.run1 300 (fun _ => by kernel_rfl) fun b0 => ?_
  refine Hs.callV (v := .int .i64 x) (fun w' H => by rw [← hx]; exact cols_any t col A c1 rest w' (ha.only H.only) h1) (by kernel_rfl) ?_
  refine Hs.run0 300 (fun _ => by kernel_rfl) ?_
  refine Hs.callV (v := .int .i64 y) (fun w' H => by rw [← hy]; exact cols_any t x B c2 gone w' (hb.only H.only) h2) (by kernel_rfl) ?_
  refine Hs.run0 300 (fun _ => by kernel_rfl) ?_
  have e : IntKind.i64.wrap (y - x) = y - x := IntWalk.i64_in _ (by omega)
  refine Hs.condP (IntKind.i64.wrap (y - x) ≤ 0) (by kernel_rfl) (fun h => ?_) (fun h => ?_)
  all_goals rw [e] at h
  · have e0 : (y - x).toNat = 0 := by omega
    refine Hs.run0 300 (fun _ => by kernel_rfl) ?_
    exact Hs.ret (v := .slice none 0 0) Tryz.func164 (by kernel_rfl) fun w' H => by
      rw [e0]
      exact ⟨(none, 0), rfl, H.only, fun L _ w2 _ => ⟨fun h => absurd h (by decide), by show (0 : Nat) ≤ 0; omega, by show 0 ≤ maxLen; unfold maxLen; omega⟩⟩
  · obtain ⟨q, hq⟩ : ∃ q : Nat, y - x = q := ⟨(y - x).toNat, by omega⟩
    rw [hq] at h e
    have eq : (y - x).toNat = q := by omega
    refine Hs.run1 300 (fun _ => by kernel_rfl) fun b1 => ?_
    refine Hs.mark 1 27 5 [8, 32, 8] 3 Tryz.underlying27 Tryz.underlying5 (by kernel_rfl) (by kernel_rfl) (by kernel_rfl) ?_
    refine Hs.run0 300 (fun _ => by kernel_rfl) ?_
    refine Hs.slot 25 (.c (.v (.int .i64 q))) rfl ((by kernel_rfl : _ = Value.int .i64 (IntKind.i64.wrap (y - x))).trans (congrArg (Value.int .i64) (by rw [hq]; exact e))) ?_
    refine Hs.callU (v := fun A c => .slice A (3 * q) c) (l := rep3 q) (fun w' H => repeat_any (some ⟨b1, 0, none⟩) 3 q (by omega) (by omega) w' (rd_rdX (H.atQ (wr := true) (st := rd_st) (A := some ⟨b1, 0, none⟩) (Q := fun w => Rd w (some ⟨b1, 0, none⟩) [8, 32, 8]) 1 (by kernel_rfl)))) (by kernel_rfl) (by kernel_rfl) fun z w1 L1 B N => ?_
    refine Hs.run0 300 (fun _ => by kernel_rfl) ?_
    rw [eq, rep3_len]
    exact Hs.ret (v := .slice z.1 (3 * q) z.2) Tryz.func164 (by kernel_rfl) fun w' H => ⟨z, rfl, B w' H.only, new_fin N H⟩
end Go.Proofs.YtnfcdbjckdhieaaGreat

namespace Go.Proofs.YtnfcdbjckdhieaaGreat
set_option linter.all false
set_option maxRecDepth 100000
open Go.RowKit

theorem rdX_take {α : Type} {cf : α → List Value} {size : Nat} (hcl : ∀ x, (cf x).length = size) {w : World} {A : Option Addr} {l : List α} (i : Nat) (h : RdX cf w A l) (hi : i ≤ l.length) : RdX cf w A (l.take i) := fun h0 => by
  rw [List.length_take] at h0
  obtain ⟨b, off, e, hb, hcell⟩ := h (by omega)
  refine ⟨b, off, e, hb, fun j u hj => ?_⟩
  rw [← flatMap_take hcl l i hi, List.getElem?_take] at hj
  split at hj
  · exact hcell _ u hj
  · cases hj
section
variable {P : Program} {f : FuncId} {R : Ending → World → Prop} {n : Nat} {w0 : World} {L : List Nat} {β : List Nat} {m : SM} {tS E size bytes : Nat}
/-- A call that makes what stays. -/
theorem Hs.callW {X : Type} {v : X → Value} {Q : X → World → Prop} {F : FuncId} {args : Array Value} (hC : ∀ w, Mem w0 L β m.hp w → Calls P F args w (NewX w v Q)) (hc : callOf P n β m = some (F, args)) (hrd : rdOf m = [])
    (h : ∀ x w1 L1, Back w0 L w1 L1 → (∀ L' : List Nat, (∀ y ∈ L', y < w0.heap.size) → Keeps w1 (L' ++ L1) (Q x)) → Hs P f R n w1 L1 β (m.put (dstOf m) (.c (.v (v x))) m.hp)) : Hs P f R n w0 L β m :=
  Hs.callE v (fun x w w' => ∀ L : List Nat, (∀ y ∈ L, y < w.heap.size) → Keeps w' L (Q x)) hC hc hrd fun x w w1 H O q B hL => h x w1 _ B fun L' hL' => q _ fun y hy => by
    rcases List.mem_append.1 hy with h | h
    · exact Nat.lt_of_lt_of_le (hL' y h) H.only.size
    · exact hL y h
theorem run_lhA (ht : ElemT P tS E size bytes) {A : Option Addr} {n cap i j : Nat} (hi : i ≤ j) (hj : j ≤ cap) (w : World) : (Instr.sliceAt tS (.slice A n cap) (some (.int .i64 i)) (some (.int .i64 j)) none).run P w = .ok (.slice (loA size A i cap) (j - i) (cap - i)) w := by
  have hu : P.underlying tS = some (.slice (P.elem tS)) := by rw [ht.elem]; exact ht.ht
  rw [run_sliceAt_slice (h := hu), run_slice_lh (ht := hu) (h0 := by omega) (h1 := by omega) (h2 := by omega), ht.elem, ht.sizeOf]
  simp only [Result.andThen_ok, sliced, Int.toNat_natCast]
  rfl
/-- s[i:j], whatever s is. -/
theorem Hs.lh (ht : ElemT P tS E size bytes) {A : Option Addr} {len cap i j : Nat} (hi : i ≤ j) (hj : j ≤ cap) (hs : semOf n β m = some (valS (Instr.sliceAt tS (.slice A len cap) (some (.int .i64 i)) (some (.int .i64 j)) none))) (h : Hs P f R n w0 L β (m.put (dstOf m) (.c (.v (.slice (loA size A i cap) (j - i) (cap - i)))) m.hp)) : Hs P f R n w0 L β m :=
  Hs.opV (.c (.v (.slice (loA size A i cap) (j - i) (cap - i)))) hs rfl (fun w _ => run_lhA ht hi hj w) h
end
theorem inner_any (c : Int) (w : World) : Calls Tryz.prog 209 #[.int .u8 c] w fun e w' => e = .returned (.bool (utfC c)) ∧ Only [] w w' := by
  refine Hs.enter Tryz.func209 [] [] [] [.c (.v (.int .u8 c))] (Mem.start0 w) (by kernel_rfl) (by kernel_rfl) ?_
  refine Hs.run0 300 (fun _ => by kernel_rfl) ?_
  exact Hs.ret (v := .bool (utfC c)) Tryz.func209 (by kernel_rfl) fun w' H => ⟨rfl, H.only⟩
def startGo (l : List Int) : Nat → Nat
  | 0 => 0
  | a + 1 => if utfC (l.getD (a + 1) 0) && decide (l.length - (a + 1) < 4) then startGo l a else a + 1
def startC (t : TM) (l : List Int) : Nat := if l.length = 0 then 0 else if t.has 42 then startGo l (l.length - 1) else l.length - 1
theorem startGo_le (l : List Int) : ∀ a, startGo l a ≤ a
  | 0 => Nat.le_refl _
  | a + 1 => by
    have := startGo_le l a
    unfold startGo
    split <;> omega
theorem startC_lt (t : TM) (l : List Int) (h : 0 < l.length) : startC t l < l.length := by
  have := startGo_le l (l.length - 1)
  unfold startC
  rw [if_neg (by omega)]
  split <;> omega
theorem startC_le (t : TM) (l : List Int) : startC t l ≤ l.length := by
  by_cases h : 0 < l.length
  · exact Nat.le_of_lt (startC_lt t l h)
  · unfold startC; rw [if_pos (by omega)]; omega
theorem start_any (t : TM) (A : Option Addr) (cap : Nat) (l : List Int) (w : World) (hb : RdX cu8 w A l) (hlen : l.length ≤ 1000000) : Calls Tryz.prog 191 #[t.val, .slice A l.length cap] w fun e w' => e = .returned (.int .i64 (startC t l)) ∧ Only [] w w' := by
  have J : ∀ (a : Nat), a < l.length → ∀ (u : Nat → Value), Hs Tryz.prog 191 (fun e w' => e = .returned (.int .i64 (startGo l a)) ∧ Only [] w w') (Tryz.f191).ntmps w [] [] ⟨.no, loopAt Tryz.f191 0, pins [(1, .c (.v (.slice A l.length cap))), (5, .c (.v (.int .i64 a)))] (.vals u), []⟩ := by
    intro a
    induction a with
    | zero =>
      intro ha u
      obtain ⟨y, hy⟩ : ∃ y, l[0]? = some y := ⟨_, List.getElem?_eq_getElem ha⟩
      obtain ⟨ab, aoff, hA, _, _⟩ := hb (by omega)
      subst hA
      refine Hs.run0 300 (fun _ => by kernel_rfl) ?_
      refine Hs.idx (b := ab) (off := aoff) (c := cap) (i := 0) elemU8 ha (by kernel_rfl) ?_
      refine Hs.ldc (E' := 5) (b := ab) (off := aoff + 0 * 1) (.int .u8 y) (by kernel_rfl) (fun w' H => u8_cell (hb.only H.only) hy) (by kernel_rfl) ?_
      refine Hs.run0 300 (fun _ => by kernel_rfl) ?_
      refine Hs.callV (fun w' H => inner_any y w') (by kernel_rfl) ?_
      refine Hs.run0 300 (fun _ => by kernel_rfl) ?_
      refine Hs.bool 20 (utfC y) (by kernel_rfl) (fun h1 => ?_) (fun h1 => ?_)
      · refine Hs.rung0 [5, 9] 300 (fun _ => by kernel_rfl) ?_
        refine Hs.condF (by kernel_rfl) ?_
        refine Hs.run0 300 (fun _ => by kernel_rfl) ?_
        exact Hs.ret (v := .int .i64 (0 : Nat)) Tryz.func191 (by kernel_rfl) fun w' H => ⟨rfl, H.only⟩
      · refine Hs.rung0 [5, 9] 300 (fun _ => by kernel_rfl) ?_
        refine Hs.condF (by kernel_rfl) ?_
        refine Hs.run0 300 (fun _ => by kernel_rfl) ?_
        exact Hs.ret (v := .int .i64 (0 : Nat)) Tryz.func191 (by kernel_rfl) fun w' H => ⟨rfl, H.only⟩
    | succ a ih =>
      intro ha u
      obtain ⟨y, hy⟩ : ∃ y, l[a + 1]? = some y := ⟨_, List.getElem?_eq_getElem ha⟩
      have hg : l.getD (a + 1) 0 = y := by simp [List.getD, hy]
      obtain ⟨ab, aoff, hA, _, _⟩ := hb (by omega)
      subst hA
      have e1 : IntKind.i64.wrap ((l.length : Int) - ((a + 1 : Nat) : Int)) = ((l.length - (a + 1) : Nat) : Int) := by rw [IntWalk.i64_in _ (by omega)]; omega
      have e2 : IntKind.i64.wrap (((a + 1 : Nat) : Int) - 1) = (a : Int) := by rw [IntWalk.i64_in _ (by omega)]; omega
      refine Hs.run0 300 (fun _ => by kernel_rfl) ?_
      refine Hs.idx (b := ab) (off := aoff) (c := cap) (i := a + 1) elemU8 ha (by kernel_rfl) ?_
      refine Hs.ldc (E' := 5) (b := ab) (off := aoff + (a + 1) * 1) (.int .u8 y) (by kernel_rfl) (fun w' H => u8_cell (hb.only H.only) hy) (by kernel_rfl) ?_
      refine Hs.run0 300 (fun _ => by kernel_rfl) ?_
      refine Hs.callV (fun w' H => inner_any y w') (by kernel_rfl) ?_
      refine Hs.run0 300 (fun _ => by kernel_rfl) ?_
      refine Hs.bool 20 (utfC y) (by kernel_rfl) (fun h1 => ?_) (fun h1 => ?_)
      · refine Hs.rung0 [5] 300 (fun _ => by kernel_rfl) ?_
        refine Hs.bool 24 (decide (((a + 1 : Nat) : Int) > 0)) (by kernel_rfl) (fun _ => ?_) (fun h => absurd (of_decide_eq_false h) (by omega))
        refine Hs.rung0 [5, 9] 300 (fun _ => by kernel_rfl) ?_
        refine Hs.condP (IntKind.i64.wrap ((l.length : Int) - ((a + 1 : Nat) : Int)) < 4) (by kernel_rfl) (fun h2 => ?_) (fun h2 => ?_)
        all_goals rw [e1] at h2
        · have e : startGo l (a + 1) = startGo l a := by
            rw [startGo, hg, h1, decide_eq_true (by omega : l.length - (a + 1) < 4)]; rfl
          rw [e]
          refine Hs.run0 300 (fun _ => by kernel_rfl) ?_
          refine Hs.slot 5 (.c (.v (.int .i64 a))) rfl ((by kernel_rfl : _ = Value.int .i64 (IntKind.i64.wrap (((a + 1 : Nat) : Int) - 1))).trans (congrArg (Value.int .i64) e2)) ?_
          refine Hs.loop (by kernel_rfl) ?_
          exact Hs.goto (loopAt Tryz.f191 0) [] [] [(1, .c (.v (.slice (some ⟨ab, aoff, none⟩) l.length cap))), (5, .c (.v (.int .i64 a)))] (by kernel_rfl) (by decide) (by kernel_rfl) (by kernel_rfl) (fun _ => (by kernel_rfl)) (fun u => ih (by omega) u)
        · have e : startGo l (a + 1) = a + 1 := by
            rw [startGo, hg, h1, decide_eq_false (by omega : ¬ l.length - (a + 1) < 4)]; rfl
          rw [e]
          refine Hs.run0 300 (fun _ => by kernel_rfl) ?_
          exact Hs.ret (v := .int .i64 (a + 1 : Nat)) Tryz.func191 (by kernel_rfl) fun w' H => ⟨rfl, H.only⟩
      · have e : startGo l (a + 1) = a + 1 := by
          rw [startGo, hg, h1]; rfl
        rw [e]
        refine Hs.rung0 [5, 9] 300 (fun _ => by kernel_rfl) ?_
        refine Hs.condF (by kernel_rfl) ?_
        refine Hs.run0 300 (fun _ => by kernel_rfl) ?_
        exact Hs.ret (v := .int .i64 (a + 1 : Nat)) Tryz.func191 (by kernel_rfl) fun w' H => ⟨rfl, H.only⟩
  have e1 : IntKind.i64.wrap ((l.length : Int) - 1) = (l.length : Int) - 1 := IntWalk.i64_in _ (by omega)
  refine Hs.enter Tryz.func191 [] [] [] [.g t.sc, .c (.v (.slice A l.length cap))] (Mem.start0 w) (by kernel_rfl) (by kernel_rfl) ?_
  refine Hs.run1 300 (fun _ => by kernel_rfl) fun b0 => ?_
  refine Hs.condP (IntKind.i64.wrap ((l.length : Int) - 1) < 0) (by kernel_rfl) (fun h => ?_) (fun h => ?_)
  all_goals rw [e1] at h
  · have e : startC t l = 0 := by unfold startC; rw [if_pos (by omega)]
    rw [e]
    refine Hs.run0 300 (fun _ => by kernel_rfl) ?_
    exact Hs.ret (v := .int .i64 0) Tryz.func191 (by kernel_rfl) fun w' H => ⟨rfl, H.only⟩
  obtain ⟨k, hk⟩ : ∃ k, l.length = k + 1 := ⟨l.length - 1, by omega⟩
  refine Hs.slot 5 (.c (.v (.int .i64 k))) rfl ((by kernel_rfl : _ = Value.int .i64 (IntKind.i64.wrap ((l.length : Int) - 1))).trans (congrArg (Value.int .i64) (by rw [e1]; omega))) ?_
  refine Hs.run0 300 (fun _ => by kernel_rfl) ?_
  refine Hs.callV (fun w' H => has_any t 42 w') (by kernel_rfl) ?_
  refine Hs.run0 300 (fun _ => by kernel_rfl) ?_
  refine Hs.cond (!t.has 42) (by kernel_rfl) (fun h2 => ?_) (fun h2 => ?_)
  · have e : startC t l = k := by
      have : t.has 42 = false := by simpa using h2
      unfold startC; rw [if_neg (by omega), this, hk]; rfl
    rw [e]
    refine Hs.run0 300 (fun _ => by kernel_rfl) ?_
    exact Hs.ret (v := .int .i64 k) Tryz.func191 (by kernel_rfl) fun w' H => ⟨rfl, H.only⟩
  · have e : startC t l = startGo l k := by
      have : t.has 42 = true := by simpa using h2
      unfold startC; rw [if_neg (by omega), this, hk]; rfl
    rw [e]
    refine Hs.run0 300 (fun _ => by kernel_rfl) ?_
    refine Hs.loop (by kernel_rfl) ?_
    exact Hs.goto (loopAt Tryz.f191 0) [] [] [(1, .c (.v (.slice A l.length cap))), (5, .c (.v (.int .i64 k)))] (by kernel_rfl) (by decide) (by kernel_rfl) (by kernel_rfl) (fun _ => (by kernel_rfl)) (fun u => J k (by omega) u)
theorem ownX_keepsN {w w' : World} {A : Option Addr} {cap n : Nat} {l : List Int} {E : Nat} (hl : l.length = n) (h : OwnX cu8 E 1 w' w.heap.size (.slice A n cap) l) : ∀ L : List Nat, (∀ y ∈ L, y < w.heap.size) → Keeps w' L (fun w => RdU w A cap l) := by
  subst hl; exact ownX_keeps h
def two (r g : List Int) (x : (Option Addr × Nat) × (Option Addr × Nat)) : Value := .tuple #[.slice x.1.1 r.length x.1.2, .slice x.2.1 g.length x.2.2]
def Two (r g : List Int) (x : (Option Addr × Nat) × (Option Addr × Nat)) (w : World) : Prop := RdU w x.1.1 x.1.2 r ∧ RdU w x.2.1 x.2.2 g
theorem part_any (A : Option Addr) (cap : Nat) (l : List Int) (i : Nat) (w : World) (hb : RdX cu8 w A l) (hlen : l.length ≤ 1000000) (hc : l.length ≤ cap) (hi : i ≤ l.length) : Calls Tryz.prog 190 #[.slice A l.length cap, .int .i64 i] w (NewX w (two (l.take i) (l.drop i)) (Two (l.take i) (l.drop i))) := by
  have hl1 : (l.take i).length = i := by rw [List.length_take, Nat.min_eq_left hi]
  have hl2 : (l.drop i).length = l.length - i := List.length_drop
  refine Hs.enter Tryz.func190 [] [] [] [.c (.v (.slice A l.length cap)), .c (.v (.int .i64 i))] (Mem.start0 w) (by kernel_rfl) (by kernel_rfl) ?_
  refine Hs.run0 300 (fun _ => by kernel_rfl) ?_
  refine Hs.any [] (by kernel_rfl) ?_
  refine Hs.run0 300 (fun _ => by kernel_rfl) ?_
  refine Hs.takeHi 2 elemU8 (rd := []) (A := A) (len := l.length) (cap := cap) (i := i) (by omega) (by kernel_rfl) ?_
  refine Hs.takeLo 6 elemU8 (rd := []) (A := A) (len := l.length) (cap := cap) (i := i) hi (by kernel_rfl) ?_
  refine Hs.run0 300 (fun _ => by kernel_rfl) ?_
  refine Hs.callS (cf := cu8) (E := 5) (size := 1) (fun A cap => .slice A i cap) (l.take i) i hl1 (fun w' H => by
    have := cloneB_any (l.take i) (hiA 1 A cap) cap w' (rdX_hi cu8_len (hb.only H.only) hi) (by rw [hl1]; omega)
    rw [hl1] at this; exact this) (by kernel_rfl) (by kernel_rfl) fun A1 c1 h1 h2 => ?_
  refine Hs.run0 300 (fun _ => by kernel_rfl) ?_
  refine Hs.callS (cf := cu8) (E := 5) (size := 1) (fun A cap => .slice A (l.length - i) cap) (l.drop i) (l.length - i) hl2 (fun w' H => by
    have := cloneB_any (l.drop i) (loA 1 A i cap) (cap - i) w' (rdX_lo cu8_len (hb.only H.only) hi hc) (by rw [hl2]; omega)
    rw [hl2] at this; exact this) (by kernel_rfl) (by kernel_rfl) fun A2 c2 h3 h4 => ?_
  refine Hs.run0 300 (fun _ => by kernel_rfl) ?_
  exact Hs.ret (v := .tuple #[.slice A1 i c1, .slice A2 (l.length - i) c2]) Tryz.func190 (by kernel_rfl) fun w' H => by
    refine ⟨((A1, c1), (A2, c2)), by rw [two, hl1, hl2], H.only, fun L hL => ?_⟩
    have o1 := H.fresh (cf := cu8) (l := l.take i) (E := 5) (size := 1) (A := A1) (cap := c1) (nl := i) 0 hl1 (by kernel_rfl)
    have o2 := H.fresh (cf := cu8) (l := l.drop i) (E := 5) (size := 1) (A := A2) (cap := c2) (nl := l.length - i) 1 hl2 (by kernel_rfl)
    exact (ownX_keepsN hl1 o1 L hL).and (ownX_keepsN hl2 o2 L hL)
theorem erase_any (t : TM) (A : Option Addr) (cap : Nat) (l : List Int) (w : World) (hb : RdX cu8 w A l) (hlen : l.length ≤ 1000000) (hc : l.length ≤ cap) : Calls Tryz.prog 162 #[t.val, .slice A l.length cap] w (NewX w (two (l.take (startC t l)) (l.drop (startC t l))) (Two (l.take (startC t l)) (l.drop (startC t l)))) := by
  refine Hs.enter Tryz.func162 [] [] [] [.g t.sc, .c (.v (.slice A l.length cap))] (Mem.start0 w) (by kernel_rfl) (by kernel_rfl) ?_
  refine Hs.run1 300 (fun _ => by kernel_rfl) fun b0 => ?_
  refine Hs.callV (fun w' H => start_any t A cap l w' (hb.only H.only) hlen) (by kernel_rfl) ?_
  refine Hs.run0 300 (fun _ => by kernel_rfl) ?_
  refine Hs.callW (fun w' H => part_any A cap l (startC t l) w' (hb.only H.only) hlen hc (startC_le t l)) (by kernel_rfl) (by kernel_rfl) fun x w1 L1 B N => ?_
  refine Hs.run0 300 (fun _ => by kernel_rfl) ?_
  exact Hs.ret (v := two (l.take (startC t l)) (l.drop (startC t l)) x) Tryz.func162 (by kernel_rfl) fun w' H => ⟨x, rfl, B w' H.only, new_fin N H⟩
end Go.Proofs.YtnfcdbjckdhieaaGreat

namespace Go.Proofs.YtnfcdbjckdhieaaGreat
set_option linter.all false
set_option maxRecDepth 100000
open Go.RowKit

def blankC (u : List Int) : Bool := u.length == 1 && (u.getD 0 0 == 32 || u.getD 0 0 == 9)
theorem blank_any (A : Option Addr) (cap : Nat) (l : List Int) (w : World) (hb : RdX cu8 w A l) : Calls Tryz.prog 192 #[.slice A l.length cap] w fun e w' => e = .returned (.bool (blankC l)) ∧ Only [] w w' := by
  refine Hs.enter Tryz.func192 [] [] [] [.c (.v (.slice A l.length cap))] (Mem.start0 w) (by kernel_rfl) (by kernel_rfl) ?_
  refine Hs.run0 300 (fun _ => by kernel_rfl) ?_
  refine Hs.bool 6 ((l.length : Int) == 1) (by kernel_rfl) (fun h => ?_) (fun h => ?_)
  · have hl : l.length = 1 := by simp at h; omega
    obtain ⟨y, hy⟩ : ∃ y, l[0]? = some y := ⟨_, List.getElem?_eq_getElem (by omega)⟩
    have hg : l.getD 0 0 = y := by simp [List.getD, hy]
    obtain ⟨ab, aoff, hA, _, _⟩ := hb (by omega)
    subst hA
    have e : blankC l = (y == 32 || y == 9) := by unfold blankC; rw [hl, hg]; rfl
    rw [e]
    refine Hs.rung0 [3] 300 (fun _ => by kernel_rfl) ?_
    refine Hs.idx (b := ab) (off := aoff) (len := l.length) (c := cap) (i := 0) elemU8 (by omega) (by kernel_rfl) ?_
    refine Hs.rung0 [3] 300 (fun _ => by kernel_rfl) ?_
    refine Hs.ldc (E' := 5) (b := ab) (off := aoff + 0 * 1) (.int .u8 y) (by kernel_rfl) (fun w' H => u8_cell (hb.only H.only) hy) (by kernel_rfl) ?_
    refine Hs.rung0 [3] 300 (fun _ => by kernel_rfl) ?_
    refine Hs.bool 11 (y == 32) (by kernel_rfl) (fun h1 => ?_) (fun h1 => ?_)
    · refine Hs.rung0 [3, 8] 300 (fun _ => by kernel_rfl) ?_
      exact Hs.ret (v := .bool true) Tryz.func192 (by kernel_rfl) fun w' H => ⟨by rw [h1]; rfl, H.only⟩
    · refine Hs.rung0 [3, 8] 300 (fun _ => by kernel_rfl) ?_
      refine Hs.idx (b := ab) (off := aoff) (len := l.length) (c := cap) (i := 0) elemU8 (by omega) (by kernel_rfl) ?_
      refine Hs.rung0 [3, 8] 300 (fun _ => by kernel_rfl) ?_
      refine Hs.ldc (E' := 5) (b := ab) (off := aoff + 0 * 1) (.int .u8 y) (by kernel_rfl) (fun w' H => u8_cell (hb.only H.only) hy) (by kernel_rfl) ?_
      refine Hs.rung0 [3, 8] 300 (fun _ => by kernel_rfl) ?_
      exact Hs.ret (v := .bool (y == 9)) Tryz.func192 (by kernel_rfl) fun w' H => ⟨by rw [h1]; rfl, H.only⟩
  · have hl : l.length ≠ 1 := by simp at h; omega
    have e : blankC l = false := by
      unfold blankC
      rw [show (l.length == 1) = false by simpa using hl]; rfl
    rw [e]
    refine Hs.rung0 [3, 8] 300 (fun _ => by kernel_rfl) ?_
    exact Hs.ret (v := .bool false) Tryz.func192 (by kernel_rfl) fun w' H => ⟨rfl, H.only⟩
def wordGo (t : TM) (l : List Int) : Nat → Nat → Bool → Nat
  | 0, at_, _ => at_
  | f + 1, at_, wi => if at_ = 0 then 0 else if blankC ((l.take at_).drop (startC t (l.take at_))) && wi then at_ else wordGo t l f (startC t (l.take at_)) (wi || !blankC ((l.take at_).drop (startC t (l.take at_))))
def wordC (t : TM) (l : List Int) : Nat := wordGo t l l.length l.length false
theorem wordGo_le (t : TM) (l : List Int) : ∀ (f a : Nat) (wi : Bool), a ≤ l.length → wordGo t l f a wi ≤ a
  | 0, a, _, _ => Nat.le_refl _
  | f + 1, a, wi, ha => by
    unfold wordGo
    split
    · omega
    · split
      · omega
      · have h1 := startC_le t (l.take a)
        rw [List.length_take, Nat.min_eq_left ha] at h1
        have := wordGo_le t l f (startC t (l.take a)) (wi || !blankC ((l.take a).drop (startC t (l.take a)))) (by omega)
        omega
theorem word_any (t : TM) (A : Option Addr) (cap : Nat) (l : List Int) (w : World) (hb : RdX cu8 w A l) (hlen : l.length ≤ 1000000) (hc : l.length ≤ cap) : Calls Tryz.prog 163 #[t.val, .slice A l.length cap] w (NewX w (two (l.take (wordC t l)) (l.drop (wordC t l))) (Two (l.take (wordC t l)) (l.drop (wordC t l)))) := by
  have E : ∀ (i : Nat), i ≤ l.length → wordC t l = i → ∀ (b0 : Nat) (u : Nat → Value), Hs Tryz.prog 163 (NewX w (two (l.take (wordC t l)) (l.drop (wordC t l))) (Two (l.take (wordC t l)) (l.drop (wordC t l)))) (Tryz.f163).ntmps w [] [b0] ⟨.no, atR Tryz.f163 10, pins [(1, .c (.v (.slice A l.length cap))), (6, .c (.v (.int .i64 i)))] (.vals u), [.b true 26 t.sc]⟩ := by
    intro i hi e b0 u
    rw [e]
    refine Hs.run0 300 (fun _ => by kernel_rfl) ?_
    refine Hs.callW (fun w' H => part_any A cap l i w' (hb.only H.only) hlen hc hi) (by kernel_rfl) (by kernel_rfl) fun x w1 L1 B N => ?_
    refine Hs.run0 300 (fun _ => by kernel_rfl) ?_
    exact Hs.ret (v := two (l.take i) (l.drop i) x) Tryz.func163 (by kernel_rfl) fun w' H => ⟨x, rfl, B w' H.only, new_fin N H⟩
  have J : ∀ (f i : Nat) (wi : Bool), i ≤ f → i ≤ l.length → wordC t l = wordGo t l f i wi → ∀ (b0 : Nat) (u : Nat → Value), Hs Tryz.prog 163 (NewX w (two (l.take (wordC t l)) (l.drop (wordC t l))) (Two (l.take (wordC t l)) (l.drop (wordC t l)))) (Tryz.f163).ntmps w [] [b0] ⟨.no, loopAt Tryz.f163 0, pins [(1, .c (.v (.slice A l.length cap))), (2, .c (.p 0 0)), (6, .c (.v (.int .i64 i))), (7, .c (.v (.bool wi)))] (.vals u), [.b true 26 t.sc]⟩ := by
    intro f
    have zero : ∀ (i : Nat), i = 0 → wordC t l = 0 → ∀ (wi : Bool) (b0 : Nat) (u : Nat → Value), Hs Tryz.prog 163 (NewX w (two (l.take (wordC t l)) (l.drop (wordC t l))) (Two (l.take (wordC t l)) (l.drop (wordC t l)))) (Tryz.f163).ntmps w [] [b0] ⟨.no, loopAt Tryz.f163 0, pins [(1, .c (.v (.slice A l.length cap))), (2, .c (.p 0 0)), (6, .c (.v (.int .i64 i))), (7, .c (.v (.bool wi)))] (.vals u), [.b true 26 t.sc]⟩ := by
      intro i hi e wi b0 u
      subst hi
      refine Hs.run0 300 (fun _ => by kernel_rfl) ?_
      refine Hs.condP (((0 : Nat) : Int) > 0) (by kernel_rfl) (fun h => by omega) (fun h => ?_)
      refine Hs.runR0 10 [] 300 (fun _ => by kernel_rfl) ?_
      exact Hs.goto (atR Tryz.f163 10) [0] [.b true 26 t.sc] [(1, .c (.v (.slice A l.length cap))), (6, .c (.v (.int .i64 (0 : Nat))))] (by kernel_rfl) (by decide) (by kernel_rfl) (by kernel_rfl) (fun _ => (by kernel_rfl)) (fun u => E 0 (by omega) e b0 u)
    induction f with
    | zero =>
      intro i wi hif hil e b0 u
      exact zero i (by omega) (by rw [e, wordGo]; omega) wi b0 u
    | succ f ih =>
      intro i wi hif hil e b0 u
      by_cases h0 : i = 0
      · exact zero i h0 (by rw [e, wordGo, if_pos h0]) wi b0 u
      rw [wordGo, if_neg h0] at e
      have hlt : (l.take i).length = i := by rw [List.length_take, Nat.min_eq_left hil]
      have hs1 := startC_lt t (l.take i) (by omega)
      rw [hlt] at hs1
      generalize hq : startC t (l.take i) = q at e hs1
      have hd : ((l.take i).drop q).length = i - q := by rw [List.length_drop, hlt]
      refine Hs.run0 300 (fun _ => by kernel_rfl) ?_
      refine Hs.condP ((i : Int) > 0) (by kernel_rfl) (fun h => ?_) (fun h => by omega)
      refine Hs.run0 300 (fun _ => by kernel_rfl) ?_
      refine Hs.any [0] (by kernel_rfl) ?_
      refine Hs.run0 300 (fun _ => by kernel_rfl) ?_
      refine Hs.hi elemU8 (A := A) (len := l.length) (cap := cap) (i := i) (by omega) (by kernel_rfl) ?_
      refine Hs.run0 300 (fun _ => by kernel_rfl) ?_
      refine Hs.callV (v := .int .i64 q) (fun w' H => by
        have := start_any t (hiA 1 A cap) cap (l.take i) w' (rdX_hi cu8_len (hb.only H.only) hil) (by omega)
        rw [hlt, hq] at this; exact this) (by kernel_rfl) ?_
      refine Hs.run0 300 (fun _ => by kernel_rfl) ?_
      refine Hs.lh elemU8 (A := A) (len := l.length) (cap := cap) (i := q) (j := i) (by omega) (by omega) (by kernel_rfl) ?_
      refine Hs.run0 300 (fun _ => by kernel_rfl) ?_
      refine Hs.callV (v := .bool (blankC ((l.take i).drop q))) (fun w' H => by
        have := blank_any (loA 1 A q cap) (cap - q) ((l.take i).drop q) w' (rdX_lo cu8_len (rdX_take cu8_len i (hb.only H.only) hil) (by omega) (by omega))
        rw [hd] at this; exact this) (by kernel_rfl) ?_
      generalize hz : blankC ((l.take i).drop q) = z at e
      refine Hs.run0 300 (fun _ => by kernel_rfl) ?_
      refine Hs.bool 26 z (by kernel_rfl) (fun h1 => ?_) (fun h1 => ?_)
      · subst h1
        refine Hs.rung0 [1] 300 (fun _ => by kernel_rfl) ?_
        refine Hs.cond wi (by kernel_rfl) (fun h2 => ?_) (fun h2 => ?_)
        · subst h2
          refine Hs.runR0 10 [] 300 (fun _ => by kernel_rfl) ?_
          exact Hs.goto (atR Tryz.f163 10) [0] [.b true 26 t.sc] [(1, .c (.v (.slice A l.length cap))), (6, .c (.v (.int .i64 i)))] (by kernel_rfl) (by decide) (by kernel_rfl) (by kernel_rfl) (fun _ => (by kernel_rfl)) (fun u => E i hil e b0 u)
        · subst h2
          refine Hs.run0 300 (fun _ => by kernel_rfl) ?_
          refine Hs.condF (by kernel_rfl) ?_
          refine Hs.run0 300 (fun _ => by kernel_rfl) ?_
          refine Hs.loop (by kernel_rfl) ?_
          exact Hs.goto (loopAt Tryz.f163 0) [0] [.b true 26 t.sc] [(1, .c (.v (.slice A l.length cap))), (2, .c (.p 0 0)), (6, .c (.v (.int .i64 q))), (7, .c (.v (.bool false)))] (by kernel_rfl) (by decide) (by kernel_rfl) (by kernel_rfl) (fun _ => (by kernel_rfl)) (fun u => ih q false (by omega) (by omega) e b0 u)
      · subst h1
        refine Hs.rung0 [1] 300 (fun _ => by kernel_rfl) ?_
        refine Hs.condF (by kernel_rfl) ?_
        refine Hs.run0 300 (fun _ => by kernel_rfl) ?_
        refine Hs.condT (by kernel_rfl) ?_
        refine Hs.run0 300 (fun _ => by kernel_rfl) ?_
        refine Hs.loop (by kernel_rfl) ?_
        exact Hs.goto (loopAt Tryz.f163 0) [0] [.b true 26 t.sc] [(1, .c (.v (.slice A l.length cap))), (2, .c (.p 0 0)), (6, .c (.v (.int .i64 q))), (7, .c (.v (.bool true)))] (by kernel_rfl) (by decide) (by kernel_rfl) (by kernel_rfl) (fun _ => (by kernel_rfl)) (fun u => ih q true (by omega) (by omega) (by rw [e]; cases wi <;> rfl) b0 u)
  refine Hs.enter Tryz.func163 [] [] [] [.g t.sc, .c (.v (.slice A l.length cap))] (Mem.start0 w) (by kernel_rfl) (by kernel_rfl) ?_
  refine Hs.run1 300 (fun _ => by kernel_rfl) fun b0 => ?_
  refine Hs.loop (by kernel_rfl) ?_
  exact Hs.goto (loopAt Tryz.f163 0) [0] [.b true 26 t.sc] [(1, .c (.v (.slice A l.length cap))), (2, .c (.p 0 0)), (6, .c (.v (.int .i64 l.length))), (7, .c (.v (.bool false)))] (by kernel_rfl) (by decide) (by kernel_rfl) (by kernel_rfl) (fun _ => (by kernel_rfl)) (fun u => J l.length l.length false (Nat.le_refl _) (Nat.le_refl _) rfl b0 u)
end Go.Proofs.YtnfcdbjckdhieaaGreat

namespace Go.Proofs.YtnfcdbjckdhieaaGreat
set_option linter.all false
set_option maxRecDepth 100000
open Go.RowKit

def LnOk (w : World) (x : Ln) : Prop := RdU w x.A x.c x.txt
/-- Lines that are read. -/
structure RdL (w : World) (A : Option Addr) (c : Nat) (xs : List Ln) : Prop where
  rd : RdX cLn w A xs
  le : xs.length ≤ c
  cap : c ≤ maxLen
  all : ∀ x ∈ xs, LnOk w x
def Ln.m (x : Ln) : List Int × Bool := (x.txt, x.eof)
def Ln.sc (x : Ln) : List SC := [.v (.slice x.A x.txt.length x.c), .v (.bool x.eof)]
def Ln.val (x : Ln) : Value := .agg #[.slice x.A x.txt.length x.c, .bool x.eof]
def eofN (b : Bool) : Nat := if b then 1 else 0
def sizeM (p : List Int × Bool) : Nat := p.1.length + eofN p.2
def usedM (ls : List (List Int × Bool)) : Nat := (ls.map sizeM).sum
theorem usedM_app (a b : List (List Int × Bool)) : usedM (a ++ b) = usedM a + usedM b := by simp [usedM]
theorem usedM_take (ls : List (List Int × Bool)) (i : Nat) : usedM (ls.take i) ≤ usedM ls := by
  have h : usedM ls = usedM (ls.take i) + usedM (ls.drop i) := by rw [← usedM_app, List.take_append_drop]
  omega
theorem rdX_only0 {α : Type} {cf : α → List Value} {w w' : World} {A : Option Addr} {l : List α} (h : RdX cf w A l) (O : Only [] w w') : RdX cf w' A l := h.only O
theorem RdU.only {w w' : World} {A : Option Addr} {c : Nat} {l : List Int} (h : RdU w A c l) (O : Only [] w w') : RdU w' A c l := ⟨h.1.only O, h.2⟩
theorem RdL.only {w w' : World} {A : Option Addr} {c : Nat} {xs : List Ln} (h : RdL w A c xs) (O : Only [] w w') : RdL w' A c xs := ⟨h.rd.only O, h.le, h.cap, fun x hx => (h.all x hx).only O⟩
theorem size_any (x : Ln) (w : World) (h : x.txt.length ≤ 1000000) : Calls Tryz.prog 115 #[x.val] w fun e w' => e = .returned (.int .i64 (sizeM x.m)) ∧ Only [] w w' := by
  obtain ⟨A, c, txt, eof⟩ := x
  have h : txt.length ≤ 1000000 := h
  have e1 : IntKind.i64.wrap ((txt.length : Int) + 1) = ((txt.length + 1 : Nat) : Int) := by rw [IntWalk.i64_in _ (by omega)]; omega
  refine Hs.enter Tryz.func115 [] [] [] [.g (Ln.sc ⟨A, c, txt, eof⟩)] (Mem.start0 w) (by kernel_rfl) (by kernel_rfl) ?_
  refine Hs.run1 300 (fun _ => by kernel_rfl) fun b0 => ?_
  refine Hs.cond eof (by kernel_rfl) (fun h1 => ?_) (fun h1 => ?_)
  · subst h1
    refine Hs.run0 300 (fun _ => by kernel_rfl) ?_
    exact Hs.ret (v := .int .i64 (IntKind.i64.wrap ((txt.length : Int) + 1))) Tryz.func115 (by kernel_rfl) fun w' H => ⟨by rw [e1]; rfl, H.only⟩
  · subst h1
    refine Hs.run0 300 (fun _ => by kernel_rfl) ?_
    exact Hs.ret (v := .int .i64 txt.length) Tryz.func115 (by kernel_rfl) fun w' H => ⟨rfl, H.only⟩
theorem used_any (A : Option Addr) (c : Nat) (xs : List Ln) (w : World) (hr : RdL w A c xs) (hu : usedM (xs.map Ln.m) ≤ 1000000) : Calls Tryz.prog 73 #[.slice A xs.length c] w fun e w' => e = .returned (.int .i64 (usedM (xs.map Ln.m))) ∧ Only [] w w' := by
  have hm : xs.length ≤ maxLen := Nat.le_trans hr.le hr.cap
  have J : ∀ (d i : Nat), xs.length - i = d → i ≤ xs.length → ∀ (q : Nat), q = usedM ((xs.take i).map Ln.m) → ∀ (u : Nat → Value), Hs Tryz.prog 73 (fun e w' => e = .returned (.int .i64 (usedM (xs.map Ln.m))) ∧ Only [] w w') (Tryz.f73).ntmps w [] [] ⟨.no, loopAt Tryz.f73 0, pins [(3, .c (.v (.int .i64 q))), (6, .c (.v (.slice A xs.length c))), (7, .c (.v (.int .i64 xs.length))), (8, .c (.v (.int .i64 i)))] (.vals u), []⟩ := by
    intro d
    induction d with
    | zero =>
      intro i hd hi q hq u
      obtain rfl : i = xs.length := by omega
      rw [List.take_length] at hq
      subst hq
      refine Hs.run0 300 (fun _ => by kernel_rfl) ?_
      refine Hs.condP ((xs.length : Int) < (xs.length : Int)) (by kernel_rfl) (fun h => by omega) (fun h => ?_)
      refine Hs.run0 300 (fun _ => by kernel_rfl) ?_
      exact Hs.ret (v := .int .i64 (usedM (xs.map Ln.m))) Tryz.func73 (by kernel_rfl) fun w' H => ⟨rfl, H.only⟩
    | succ d ih =>
      intro i hd hi q hq u
      have hil : i < xs.length := by omega
      obtain ⟨x, hx⟩ : ∃ x, xs[i]? = some x := ⟨_, List.getElem?_eq_getElem hil⟩
      obtain ⟨ab, aoff, hA, _, _⟩ := hr.rd (by omega)
      subst hA
      have hs : usedM ((xs.take (i + 1)).map Ln.m) = q + sizeM x.m := by
        rw [List.take_add_one, hx, List.map_append, usedM_app, ← hq]
        simp [usedM]
      have hle := usedM_take (xs.map Ln.m) (i + 1)
      rw [← List.map_take, hs] at hle
      have hxl : x.txt.length ≤ 1000000 := by
        have : x.txt.length ≤ sizeM x.m := Nat.le_add_right _ _
        omega
      refine Hs.run0 300 (fun _ => by kernel_rfl) ?_
      refine Hs.condP ((i : Int) < (xs.length : Int)) (by kernel_rfl) (fun h => ?_) (fun h => by omega)
      refine Hs.run0 300 (fun _ => by kernel_rfl) ?_
      refine Hs.idx (b := ab) (off := aoff) (c := c) elemLn hil (by kernel_rfl) ?_
      refine Hs.ldx (cf := cLn) (size := 2) (E := 128) (b := ab) (off := aoff) (i := i) (l := xs) (x := x) cLn_len (.g x.sc) (by kernel_rfl) (fun w' H => hr.rd.only H.only) hx (by kernel_rfl) (by kernel_rfl) rfl (by kernel_rfl) ?_
      refine Hs.run1 300 (fun _ => by kernel_rfl) fun b0 => ?_
      refine Hs.callV (fun w' H => size_any x w' hxl) (by kernel_rfl) ?_
      refine Hs.run0 300 (fun _ => by kernel_rfl) ?_
      have e3 : IntKind.i64.wrap ((q : Int) + ((sizeM x.m : Nat) : Int)) = ((q + sizeM x.m : Nat) : Int) := by rw [IntWalk.i64_in _ (by omega)]; omega
      refine Hs.slot 3 (.c (.v (.int .i64 (q + sizeM x.m : Nat)))) rfl ((by kernel_rfl : _ = Value.int .i64 (IntKind.i64.wrap ((q : Int) + ((sizeM x.m : Nat) : Int)))).trans (congrArg (Value.int .i64) e3)) ?_
      refine Hs.slot 8 (.c (.v (.int .i64 (i + 1 : Nat)))) rfl ((by kernel_rfl : _ = Value.int .i64 (IntKind.i64.wrap ((i : Int) + 1))).trans (wrap_nextJ hm)) ?_
      refine Hs.loop (by kernel_rfl) ?_
      exact Hs.goto (loopAt Tryz.f73 0) [] [] [(3, .c (.v (.int .i64 (q + sizeM x.m : Nat)))), (6, .c (.v (.slice (some ⟨ab, aoff, none⟩) xs.length c))), (7, .c (.v (.int .i64 xs.length))), (8, .c (.v (.int .i64 (i + 1 : Nat))))] (by kernel_rfl) (by decide) (by kernel_rfl) (by kernel_rfl) (fun _ => (by kernel_rfl)) (fun u => ih (i + 1) (by omega) (by omega) _ hs.symm u)
  refine Hs.enter Tryz.func73 [] [] [] [.c (.v (.slice A xs.length c))] (Mem.start0 w) (by kernel_rfl) (by kernel_rfl) ?_
  refine Hs.run0 300 (fun _ => by kernel_rfl) ?_
  refine Hs.loop (by kernel_rfl) ?_
  exact Hs.goto (loopAt Tryz.f73 0) [] [] [(3, .c (.v (.int .i64 (0 : Nat)))), (6, .c (.v (.slice A xs.length c))), (7, .c (.v (.int .i64 xs.length))), (8, .c (.v (.int .i64 (0 : Nat))))] (by kernel_rfl) (by decide) (by kernel_rfl) (by kernel_rfl) (fun _ => (by kernel_rfl)) (fun u => J xs.length 0 (by omega) (by omega) 0 rfl u)
theorem twin_any (x : Ln) (w : World) (hr : LnOk w x) (h : x.txt.length ≤ 1000000) : Calls Tryz.prog 137 #[x.val] w (NewX w (fun z : Option Addr × Nat => Ln.val ⟨z.1, z.2, x.txt, x.eof⟩) (fun z w => LnOk w ⟨z.1, z.2, x.txt, x.eof⟩)) := by
  obtain ⟨A, c, txt, eof⟩ := x
  have h : txt.length ≤ 1000000 := h
  refine Hs.enter Tryz.func137 [] [] [] [.g (Ln.sc ⟨A, c, txt, eof⟩)] (Mem.start0 w) (by kernel_rfl) (by kernel_rfl) ?_
  refine Hs.run2 300 (fun _ => by kernel_rfl) fun b0 b1 => ?_
  refine Hs.any [0] (by kernel_rfl) ?_
  refine Hs.run0 300 (fun _ => by kernel_rfl) ?_
  refine Hs.callS (cf := cu8) (E := 5) (size := 1) (fun A cap => .slice A txt.length cap) txt _ rfl (fun w' H => cloneB_any txt A c w' (hr.1.only H.only) h) (by kernel_rfl) (by kernel_rfl) fun A1 c1 h1 h2 => ?_
  refine Hs.run0 300 (fun _ => by kernel_rfl) ?_
  exact Hs.ret (v := .agg #[.slice A1 txt.length c1, .bool eof]) Tryz.func137 (by kernel_rfl) fun w' H => ⟨(A1, c1), rfl, H.only, ownX_keeps (E := 5) (H.fresh (cf := cu8) (E := 5) (size := 1) (A := A1) (cap := c1) 2 rfl (by kernel_rfl))⟩
end Go.Proofs.YtnfcdbjckdhieaaGreat

namespace Go.Proofs.YtnfcdbjckdhieaaGreat
set_option linter.all false
set_option maxRecDepth 100000
open Go.RowKit

/-- Lines of a call's own: the row may be written, the texts stay. -/
def OwnL (w : World) (A : Option Addr) (n c : Nat) (zs : List Ln) (ms : List (List Int × Bool)) (w' : World) : Prop :=
  zs.map Ln.m = ms ∧ zs.length = n ∧ OwnX cLn 128 2 w' w.heap.size (.slice A n c) zs ∧ ∀ L : List Nat, (∀ y ∈ L, y < w.heap.size ∨ some y = A.map (·.block)) → Keeps w' L (fun w => ∀ z ∈ zs, LnOk w z)
def mkLn (z : Option Addr × Nat) (x : Ln) : Ln := ⟨z.1, z.2, x.txt, x.eof⟩
theorem totP_two {α : Type} (p q : Pc α) : totP [p, q] = p.l ++ q.l := by simp [totP]
theorem twins_any (A : Option Addr) (c : Nat) (xs : List Ln) (B : Option Addr) (d : Nat) (ys : List Ln) (w : World) (hx : RdL w A c xs) (hy : RdL w B d ys) (hu : usedM ((xs ++ ys).map Ln.m) ≤ 1000000) (hl : (xs ++ ys).length ≤ 1000000) : Calls Tryz.prog 100 #[.slice A xs.length c, .slice B ys.length d] w fun e w' => ∃ A' c' zs, e = .returned (.slice A' (xs ++ ys).length c') ∧ Only [] w w' ∧ OwnL w A' (xs ++ ys).length c' zs ((xs ++ ys).map Ln.m) w' := by
  have hall : ∀ z ∈ xs ++ ys, LnOk w z := fun z hz => by
    rcases List.mem_append.1 hz with h | h
    · exact hx.all z h
    · exact hy.all z h
  generalize hzs : xs ++ ys = zs at *
  have hm : zs.length ≤ maxLen := by unfold maxLen; omega
  have hb := by_line
  have J : ∀ (d i : Nat), zs.length - i = d → i ≤ zs.length → ∀ (outs : List Ln) (w1 : World) (L1 : List Nat), Nx w w1 L1 (fun w => ∀ z ∈ outs, LnOk w z) → outs.map Ln.m = (zs.take i).map Ln.m → outs.length = i → ∀ (A1 A2 : Option Addr) (c1 c2 : Nat) (u : Nat → Value), Hs Tryz.prog 100 (fun e w' => ∃ A' c' zs', e = .returned (.slice A' zs.length c') ∧ Only [] w w' ∧ OwnL w A' zs.length c' zs' (zs.map Ln.m) w') (Tryz.f100).ntmps w1 L1 [0, 0] ⟨.no, loopAt Tryz.f100 0, pins [(5, .c (.v (.slice A2 i c2))), (11, .c (.v (.slice A1 zs.length c1))), (12, .c (.v (.int .i64 zs.length))), (13, .c (.v (.int .i64 i)))] (.vals u), [.s A1 c1 zs.length 128 2 (zs.flatMap cLn), .s A2 c2 i 128 2 (outs.flatMap cLn)]⟩ := by
    intro d
    induction d with
    | zero =>
      intro i hd hi outs w1 L1 N ho hol A1 A2 c1 c2 u
      obtain rfl : i = zs.length := by omega
      rw [List.take_length] at ho
      refine Hs.run0 300 (fun _ => by kernel_rfl) ?_
      refine Hs.condP ((zs.length : Int) < (zs.length : Int)) (by kernel_rfl) (fun h => by omega) (fun h => ?_)
      refine Hs.run0 300 (fun _ => by kernel_rfl) ?_
      exact Hs.ret (v := .slice A2 zs.length c2) Tryz.func100 (by kernel_rfl) fun w' H => ⟨A2, c2, outs, rfl, N.only H, ho, hol, N.ownX H (cf := cLn) (E := 128) (size := 2) (A := A2) (cap := c2) 1 hol (by kernel_rfl), fun L hL => N.fin H L fun x hx => by
        rcases hL x hx with h | h
        · exact .inl h
        · exact .inr (wrN_mem.2 ⟨1, .s A2 c2 zs.length 128 2 (outs.flatMap cLn), 0, (by kernel_rfl), rfl, rfl, h.symm⟩)⟩
    | succ d ih =>
      intro i hd hi outs w1 L1 N ho hol A1 A2 c1 c2 u
      have hil : i < zs.length := by omega
      obtain ⟨x, hxi⟩ : ∃ x, zs[i]? = some x := ⟨_, List.getElem?_eq_getElem hil⟩
      have hxm : x ∈ zs := List.mem_of_getElem? hxi
      have hle := usedM_take (zs.map Ln.m) (i + 1)
      rw [← List.map_take, List.take_add_one, hxi, List.map_append, usedM_app] at hle
      have hxl : x.txt.length ≤ 1000000 := by
        have h1 : x.txt.length ≤ sizeM x.m := Nat.le_add_right _ _
        have h2 : usedM ((some x).toList.map Ln.m) = sizeM x.m := by simp [usedM]
        omega
      refine Hs.run0 300 (fun _ => by kernel_rfl) ?_
      refine Hs.condP ((i : Int) < (zs.length : Int)) (by kernel_rfl) (fun h => ?_) (fun h => by omega)
      refine Hs.someS (A := A1) (cap := c1) (nl := zs.length) (E := 128) (size := 2) (vs := zs.flatMap cLn) 0 (by kernel_rfl) (by omega) fun g hA => ?_
      subst hA
      refine Hs.run0 300 (fun _ => by kernel_rfl) ?_
      refine Hs.idx (b := g) (off := 0) (c := c1) elemLn hil (by kernel_rfl) ?_
      refine Hs.ldx (cf := cLn) (size := 2) (E := 128) (b := g) (off := 0) (i := i) (l := zs) (x := x) cLn_len (.g x.sc) (by kernel_rfl) (fun w' H => H.rdX (A := some ⟨g, 0, none⟩) (cap := c1) (E := 128) (size := 2) 0 rfl (by kernel_rfl)) hxi (by kernel_rfl) (by kernel_rfl) rfl (by kernel_rfl) ?_
      refine Hs.run1 300 (fun _ => by kernel_rfl) fun b0 => ?_
      refine Hs.callM N (fun w' H => twin_any x w' ((hall x hxm).only (N.only H)) hxl) (by kernel_rfl) (by kernel_rfl) fun z w2 L2 N2 => ?_
      refine Hs.slot 19 (.g (Ln.sc (mkLn z x))) rfl (by kernel_rfl) ?_
      refine Hs.run1 300 (fun _ => by kernel_rfl) fun b1 => ?_
      refine Hs.app (cf := cLn) (c := 1) (ty := 93) 1 elemLn outs [(mkLn z x)] i 1 hol rfl cLn_one cLn_len (A := A2) (B := some ⟨b1, 0, none⟩) (cap := c2) (by kernel_rfl) (by kernel_rfl) (by kernel_rfl) (fun w' H => H.rdB (cf := cLn) (wr := true) (T := 128) (cs := Ln.sc (mkLn z x)) (gs := [(mkLn z x)]) 3 (by kernel_rfl) rfl) (by unfold maxLen; omega) (by rw [hb]; omega) fun A3 c3 h3 => ?_
      refine Hs.run0 300 (fun _ => by kernel_rfl) ?_
      refine Hs.slot 13 (.c (.v (.int .i64 (i + 1 : Nat)))) rfl ((by kernel_rfl : _ = Value.int .i64 (IntKind.i64.wrap ((i : Int) + 1))).trans (wrap_nextJ hm)) ?_
      refine Hs.loop (by kernel_rfl) ?_
      exact Hs.goto (loopAt Tryz.f100 0) [0, 1] [.s (some ⟨g, 0, none⟩) c1 zs.length 128 2 (zs.flatMap cLn), .s A3 c3 (i + 1) 128 2 ((outs ++ [(mkLn z x)]).flatMap cLn)] [(5, .c (.v (.slice A3 (i + 1) c3))), (11, .c (.v (.slice (some ⟨g, 0, none⟩) zs.length c1))), (12, .c (.v (.int .i64 zs.length))), (13, .c (.v (.int .i64 (i + 1 : Nat))))] (by kernel_rfl) (by decide) (by kernel_rfl) (by kernel_rfl) (fun _ => (by kernel_rfl)) (fun u => ih (i + 1) (by omega) (by omega) (outs ++ [(mkLn z x)]) w2 L2 (N2.imp fun w h y hy => by
        rcases List.mem_append.1 hy with h1 | h1
        · exact h.2 y h1
        · rw [List.mem_singleton.1 h1]; exact h.1) (by rw [List.map_append, ho, List.take_add_one, hxi, List.map_append]; rfl) (by rw [List.length_append, hol]; rfl) (some ⟨g, 0, none⟩) A3 c1 c3 u)
  refine Hs.enter Tryz.func100 [] [] [] [.c (.v (.slice A xs.length c)), .c (.v (.slice B ys.length d))] (Mem.start0 w) (by kernel_rfl) (by kernel_rfl) ?_
  refine Hs.run1 300 (fun _ => by kernel_rfl) fun b0 => ?_
  refine Hs.callS (cf := cLn) (E := 128) (size := 2) (fun A cap => .slice A zs.length cap) zs _ rfl (fun w' H => by
    have := concatL_any [⟨A, c, xs⟩, ⟨B, d, ys⟩] (some ⟨b0, 0, none⟩) 2 w' (H.rdB (cf := Pc.cs) (wr := true) (T := 93) (cs := [.v (.slice A xs.length c), .v (.slice B ys.length d)]) 0 (by kernel_rfl) rfl) ⟨by simp, by unfold maxLen; omega⟩ (fun p hp => by
      simp only [List.mem_cons, List.not_mem_nil, or_false] at hp
      rcases hp with rfl | rfl
      · exact hx.rd.only H.only
      · exact hy.rd.only H.only) (by rw [totP_two]; show (xs ++ ys).length ≤ _; rw [hzs]; exact hl)
    rw [totP_two] at this
    rw [show (Pc.mk A c xs).l ++ (Pc.mk B d ys).l = zs from hzs] at this
    exact this) (by kernel_rfl) (by kernel_rfl) fun A1 c1 h1 h2 => ?_
  refine Hs.run0 300 (fun _ => by kernel_rfl) ?_
  refine Hs.nilS 128 2 (by kernel_rfl) ?_ (by kernel_rfl)
  refine Hs.loop (by kernel_rfl) ?_
  exact Hs.goto (loopAt Tryz.f100 0) [1, 2] [.s A1 c1 zs.length 128 2 (zs.flatMap cLn), .s none 0 0 128 2 (([] : List Ln).flatMap cLn)] [(5, .c (.v (.slice none 0 0))), (11, .c (.v (.slice A1 zs.length c1))), (12, .c (.v (.int .i64 zs.length))), (13, .c (.v (.int .i64 (0 : Nat))))] (by kernel_rfl) (by decide) (by kernel_rfl) (by kernel_rfl) (fun _ => (by kernel_rfl)) (fun u => J zs.length 0 (by omega) (by omega) [] w [] ((Nx.start w).imp fun _ _ y hy => by cases hy) rfl rfl A1 none c1 0 u)
end Go.Proofs.YtnfcdbjckdhieaaGreat

namespace Go.Proofs.YtnfcdbjckdhieaaGreat
set_option linter.all false
set_option maxRecDepth 100000
open Go.RowKit

theorem OwnL.keeps {w w' : World} {A : Option Addr} {n c : Nat} {zs : List Ln} {ms : List (List Int × Bool)} (h : OwnL w A n c zs ms w') : ∀ L : List Nat, (∀ y ∈ L, y < w.heap.size) → Keeps w' L (fun w => RdL w A c zs ∧ zs.map Ln.m = ms) := fun L hL => by
  obtain ⟨h1, h2, h3, h4⟩ := h
  subst h2
  obtain ⟨A1, cap1, e1, hc1, hc2, hr, hA⟩ := h3.form
  injection e1 with e1 e2 e3
  subst e1; subst e3
  have k1 : Keeps w' L (fun w => RdX cLn w A zs) := rdX_keeps hr fun a ha hx => by
    have := (hA a ha).1
    have := hL _ hx
    omega
  exact (k1.and (h4 L fun y hy => .inl (hL y hy))).imp fun w h => ⟨⟨h.1, hc1, hc2, h.2⟩, h1⟩
abbrev LX := Option Addr × Nat × List Ln
/-- Copies of lines. -/
theorem twins_new (A : Option Addr) (c : Nat) (xs : List Ln) (B : Option Addr) (d : Nat) (ys : List Ln) (n : Nat) (w : World) (hx : RdL w A c xs) (hy : RdL w B d ys) (hu : usedM ((xs ++ ys).map Ln.m) ≤ 1000000) (hl : (xs ++ ys).length ≤ 1000000) (hn : (xs ++ ys).length = n) : Calls Tryz.prog 100 #[.slice A xs.length c, .slice B ys.length d] w (NewX w (fun z : LX => .slice z.1 n z.2.1) (fun z w => RdL w z.1 z.2.1 z.2.2 ∧ z.2.2.map Ln.m = (xs ++ ys).map Ln.m)) := by
  subst hn
  refine Calls.mono (twins_any A c xs B d ys w hx hy hu hl) ?_
  rintro e w' ⟨A', c', zs, rfl, O, hO⟩
  exact ⟨(A', c', zs), rfl, O, hO.keeps⟩
theorem rdL_nil (w : World) : RdL w none 0 [] := ⟨fun h => absurd h (by decide), Nat.le_refl _, by unfold maxLen; omega, fun x hx => by cases hx⟩
def putL (ls : List (List Int × Bool)) (x : List Int × Bool) : List (List Int × Bool) × Bool := if usedM ls + sizeM x > 1024 then (ls, false) else (ls ++ [x], true)
def putV (n : Nat) (ok : Bool) (z : LX) : Value := .tuple #[.slice z.1 n z.2.1, .bool ok]
theorem put_new (A : Option Addr) (c : Nat) (xs : List Ln) (x : Ln) (w : World) (hx : RdL w A c xs) (h1 : LnOk w x) (hu : usedM (xs.map Ln.m) ≤ 500000) (hl : xs.length ≤ 500000) (hxl : x.txt.length ≤ 400000) : Calls Tryz.prog 166 #[.slice A xs.length c, x.val] w (NewX w (putV (putL (xs.map Ln.m) x.m).1.length (putL (xs.map Ln.m) x.m).2) (fun z w => RdL w z.1 z.2.1 z.2.2 ∧ z.2.2.map Ln.m = (putL (xs.map Ln.m) x.m).1)) := by
  have hsz : sizeM x.m ≤ 400001 := by
    show x.txt.length + eofN x.eof ≤ _
    unfold eofN; split <;> omega
  have e1 : IntKind.i64.wrap ((usedM (xs.map Ln.m) : Int) + (sizeM x.m : Int)) = ((usedM (xs.map Ln.m) + sizeM x.m : Nat) : Int) := by rw [IntWalk.i64_in _ (by omega)]; omega
  refine Hs.enter Tryz.func166 [] [] [] [.c (.v (.slice A xs.length c)), .g x.sc] (Mem.start0 w) (by kernel_rfl) (by kernel_rfl) ?_
  refine Hs.run1 300 (fun _ => by kernel_rfl) fun b0 => ?_
  refine Hs.any [0] (by kernel_rfl) ?_
  refine Hs.run0 300 (fun _ => by kernel_rfl) ?_
  refine Hs.callV (fun w' H => used_any A c xs w' (hx.only H.only) (by omega)) (by kernel_rfl) ?_
  refine Hs.run0 300 (fun _ => by kernel_rfl) ?_
  refine Hs.callV (fun w' H => size_any x w' (by omega)) (by kernel_rfl) ?_
  refine Hs.run0 300 (fun _ => by kernel_rfl) ?_
  refine Hs.condP (IntKind.i64.wrap ((usedM (xs.map Ln.m) : Int) + (sizeM x.m : Int)) > 1024) (by kernel_rfl) (fun h => ?_) (fun h => ?_)
  all_goals rw [e1] at h
  · have e : putL (xs.map Ln.m) x.m = (xs.map Ln.m, false) := by unfold putL; rw [if_pos (by omega)]
    rw [e]
    refine Hs.run0 300 (fun _ => by kernel_rfl) ?_
    refine Hs.callM (Nx.start w) (fun w' H => twins_new A c xs none 0 [] (xs.map Ln.m).length w' (hx.only H.only) (rdL_nil w') (by rw [List.append_nil]; omega) (by rw [List.append_nil]; omega) (by simp)) (by kernel_rfl) (by kernel_rfl) fun z w1 L1 N => ?_
    refine Hs.run0 300 (fun _ => by kernel_rfl) ?_
    exact Hs.ret (v := putV (xs.map Ln.m).length false z) Tryz.func166 (by kernel_rfl) fun w' H => ⟨z, rfl, N.only H, fun L hL => (N.fin H L fun y hy => .inl (hL y hy)).imp fun w h => by rw [List.append_nil] at h; exact h.1⟩
  · have e : putL (xs.map Ln.m) x.m = (xs.map Ln.m ++ [x.m], true) := by unfold putL; rw [if_neg (by omega)]
    rw [e]
    refine Hs.run1 300 (fun _ => by kernel_rfl) fun b1 => ?_
    refine Hs.callM (Nx.start w) (fun w' H => twins_new A c xs (some ⟨b1, 0, none⟩) 1 [x] (xs.map Ln.m ++ [x.m]).length w' (hx.only H.only) ⟨H.rdB (cf := cLn) (wr := true) (T := 128) (cs := x.sc) (gs := [x]) 1 (by kernel_rfl) rfl, Nat.le_refl _, by unfold maxLen; omega, fun y hy => by rw [List.mem_singleton.1 hy]; exact h1.only H.only⟩ (by rw [List.map_append, usedM_app]; simp [usedM] at *; omega) (by simp; omega) (by simp)) (by kernel_rfl) (by kernel_rfl) fun z w1 L1 N => ?_
    refine Hs.run0 300 (fun _ => by kernel_rfl) ?_
    exact Hs.ret (v := putV (xs.map Ln.m ++ [x.m]).length true z) Tryz.func166 (by kernel_rfl) fun w' H => ⟨z, rfl, N.only H, fun L hL => (N.fin H L fun y hy => .inl (hL y hy)).imp fun w h => by rw [List.map_append] at h; exact h.1⟩
end Go.Proofs.YtnfcdbjckdhieaaGreat

namespace Go.Proofs.YtnfcdbjckdhieaaGreat
set_option linter.all false
set_option maxRecDepth 100000
open Go.RowKit

/-- A row of ours, at the end, whatever it holds. -/
theorem Nx.ownR {w w1 w' : World} {L1 β : List Nat} {hp : List HB} {D1 : World → Prop} {E size : Nat} (C : Nx w w1 L1 D1) (H : Mem w1 L1 β hp w') (k : Nat) {A : Option Addr} {cap nl : Nat} {vs : List Value} (hk : hp[k]? = some (.s A cap nl E size vs)) : w'.ownsRow w.heap.size E size (.slice A nl cap) nl vs := by
  have hl : w'.ownsRow 0 E size (.slice A nl cap) nl vs := H.lies k _ hk
  obtain ⟨h1, h2 | ⟨g, c, cur, e, _, hg, h4⟩⟩ := hl
  · exact ⟨h1, .inl h2⟩
  · refine ⟨h1, .inr ⟨g, c, cur, e, ?_, hg, h4⟩⟩
    injection e with e1
    subst e1
    rcases H.own k _ g hk rfl rfl with h | h
    · exact C.mem g h
    · have := C.size; omega
theorem cloneB_new (l : List Int) (n : Nat) (hn : l.length = n) (A : Option Addr) (cap : Nat) (w : World) (hr : RdX cu8 w A l) (hf : l.length ≤ 1000000) : Calls Tryz.prog 101 #[.slice A n cap] w (NewX w (fun y : Option Addr × Nat => .slice y.1 n y.2) (fun y w => RdU w y.1 y.2 l)) := by
  subst hn
  refine Calls.mono (cloneB_any l A cap w hr hf) ?_
  rintro e w' ⟨A', cap', rfl, O, hO⟩
  exact ⟨(A', cap'), rfl, O, ownX_keeps hO⟩
def readL : List (List Int × Bool) → Int → List Int × List (List Int × Bool) × Bool
  | [], _ => ([], [], false)
  | p :: r, n => if n ≤ 0 then ([], p :: r, true) else if n ≥ (p.1.length : Int) then (p.1, r, true) else (p.1.take n.toNat, (p.1.drop n.toNat, p.2) :: r, true)
abbrev RX := (Option Addr × Nat) × LX
def readV (b n : Nat) (ok : Bool) (z : RX) : Value := .tuple #[.slice z.1.1 b z.1.2, .slice z.2.1 n z.2.2.1, .bool ok]
def ReadQ (b : List Int) (ms : List (List Int × Bool)) (z : RX) (w : World) : Prop := RdU w z.1.1 z.1.2 b ∧ RdL w z.2.1 z.2.2.1 z.2.2.2 ∧ z.2.2.2.map Ln.m = ms
theorem rdU_nil (w : World) : RdU w none 0 [] := ⟨fun h => absurd h (by decide), Nat.le_refl _, by unfold maxLen; omega⟩
theorem rdL_drop1 {w : World} {A : Option Addr} {c : Nat} {x : Ln} {xs : List Ln} (h : RdL w A c (x :: xs)) : RdL w (loA 2 A 1 c) (c - 1) xs := by
  have h1 := h.le
  have h2 := h.cap
  simp only [List.length_cons] at h1
  have h3 := rdX_lo (size := 2) cLn_len h.rd (i := 1) (cap := c) (by simp) (by simpa using h1)
  exact ⟨h3, by omega, by omega, fun y hy => h.all y (List.mem_cons_of_mem _ hy)⟩
theorem read_new (A : Option Addr) (c : Nat) (xs : List Ln) (n : Int) (w : World) (hx : RdL w A c xs) (hu : usedM (xs.map Ln.m) ≤ 500000) (hl : xs.length ≤ 500000) : Calls Tryz.prog 52 #[.slice A xs.length c, .int .i64 n] w (NewX w (readV (readL (xs.map Ln.m) n).1.length (readL (xs.map Ln.m) n).2.1.length (readL (xs.map Ln.m) n).2.2) (ReadQ (readL (xs.map Ln.m) n).1 (readL (xs.map Ln.m) n).2.1)) := by
  refine Hs.enter Tryz.func52 [] [] [] [.c (.v (.slice A xs.length c)), .c (.v (.int .i64 n))] (Mem.start0 w) (by kernel_rfl) (by kernel_rfl) ?_
  refine Hs.run0 300 (fun _ => by kernel_rfl) ?_
  refine Hs.cond ((xs.length : Int) == 0) (by kernel_rfl) (fun h => ?_) (fun h => ?_)
  · have h0 : xs = [] := by
      have : xs.length = 0 := by simpa using h
      exact List.length_eq_zero_iff.1 this
    subst h0
    refine Hs.run0 300 (fun _ => by kernel_rfl) ?_
    exact Hs.ret (v := .tuple #[.slice none 0 0, .slice none 0 0, .bool false]) Tryz.func52 (by kernel_rfl) fun w' H => ⟨((none, 0), (none, 0, [])), rfl, H.only, fun L _ w2 _ => ⟨rdU_nil w2, rdL_nil w2, rfl⟩⟩
  have h0 : xs.length ≠ 0 := by simpa using h
  obtain ⟨x, r, hxr⟩ : ∃ x r, xs = x :: r := by
    cases xs with
    | nil => exact absurd rfl h0
    | cons x r => exact ⟨x, r, rfl⟩
  have hxl : x.txt.length ≤ 500000 := by
    have h1 : sizeM x.m ≤ usedM (xs.map Ln.m) := by rw [hxr]; simp [usedM]
    have h2 : x.txt.length ≤ sizeM x.m := Nat.le_add_right _ _
    omega
  refine Hs.run0 300 (fun _ => by kernel_rfl) ?_
  refine Hs.condP (n ≤ 0) (by kernel_rfl) (fun h => ?_) (fun hn0 => ?_)
  · have e : readL (xs.map Ln.m) n = ([], xs.map Ln.m, true) := by rw [hxr]; simp only [List.map_cons, readL, if_pos h]
    rw [e]
    refine Hs.run0 300 (fun _ => by kernel_rfl) ?_
    refine Hs.callM (Nx.start w) (fun w' H => twins_new A c xs none 0 [] (xs.map Ln.m).length w' (hx.only H.only) (rdL_nil w') (by rw [List.append_nil]; omega) (by rw [List.append_nil]; omega) (by simp)) (by kernel_rfl) (by kernel_rfl) fun z w1 L1 N => ?_
    refine Hs.run0 300 (fun _ => by kernel_rfl) ?_
    exact Hs.ret (v := readV 0 (xs.map Ln.m).length true ((none, 0), z)) Tryz.func52 (by kernel_rfl) fun w' H => ⟨((none, 0), z), rfl, N.only H, fun L hL => (N.fin H L fun y hy => .inl (hL y hy)).imp fun w h => by rw [List.append_nil] at h; exact ⟨rdU_nil w, h.1⟩⟩
  obtain ⟨k, hk⟩ : ∃ k : Nat, n = k := ⟨n.toNat, by omega⟩
  subst hk
  obtain ⟨ab, aoff, hA, _, _⟩ := hx.rd (by omega)
  subst hA
  have hx0 : xs[0]? = some x := by rw [hxr]; rfl
  refine Hs.run0 300 (fun _ => by kernel_rfl) ?_
  refine Hs.idx (b := ab) (off := aoff) (len := xs.length) (c := c) (i := 0) elemLn (by omega) (by kernel_rfl) ?_
  refine Hs.run0 300 (fun _ => by kernel_rfl) ?_
  refine Hs.ldc (E' := 27) (b := ab) (off := aoff + 0 * 2 + 0) (.slice x.A x.txt.length x.c) (by kernel_rfl) (fun w' H => rdX_cell cLn_len (hx.rd.only H.only) hx0 (j := 0) rfl) (by kernel_rfl) ?_
  refine Hs.run0 300 (fun _ => by kernel_rfl) ?_
  refine Hs.condP ((k : Int) ≥ (x.txt.length : Int)) (by kernel_rfl) (fun hge => ?_) (fun hlt => ?_)
  · have e : readL (xs.map Ln.m) k = (x.txt, r.map Ln.m, true) := by
      rw [hxr]
      simp only [List.map_cons, readL, if_neg hn0]
      rw [if_pos (show (k : Int) ≥ (x.m.1.length : Int) from hge)]; rfl
    rw [e]
    have hd : xs.length - 1 = r.length := by rw [hxr]; simp
    have hx1 := rdL_drop1 (hxr ▸ hx)
    refine Hs.run0 300 (fun _ => by kernel_rfl) ?_
    refine Hs.any [] (by kernel_rfl) ?_
    refine Hs.run0 300 (fun _ => by kernel_rfl) ?_
    refine Hs.takeIdx 1 (rd := []) (b := ab) (off := aoff) (len := xs.length) (c := c) (i := 0) elemLn (by omega) (by kernel_rfl) ?_
    refine Hs.takeLo 6 (rd := []) (A := some ⟨ab, aoff, none⟩) (len := xs.length) (cap := c) (i := 1) elemLn (by omega) (by kernel_rfl) ?_
    refine Hs.run0 300 (fun _ => by kernel_rfl) ?_
    refine Hs.ldc (E' := 27) (b := ab) (off := aoff + 0 * 2 + 0) (.slice x.A x.txt.length x.c) (by kernel_rfl) (fun w' H => rdX_cell cLn_len (hx.rd.only H.only) hx0 (j := 0) rfl) (by kernel_rfl) ?_
    refine Hs.run0 300 (fun _ => by kernel_rfl) ?_
    refine Hs.callM (Nx.start w) (fun w' H => cloneB_new x.txt x.txt.length rfl x.A x.c w' ((hx.all x (hxr ▸ List.mem_cons_self)).1.only H.only) (by omega)) (by kernel_rfl) (by kernel_rfl) fun y w1 L1 N1 => ?_
    refine Hs.run0 300 (fun _ => by kernel_rfl) ?_
    refine Hs.callM N1 (fun w' H => by
      have := twins_new (loA 2 (some ⟨ab, aoff, none⟩) 1 c) (c - 1) r none 0 [] (r.map Ln.m).length w' (hx1.only (N1.only H)) (rdL_nil w') (by rw [List.append_nil]; rw [hxr, List.map_cons] at hu; simp [usedM] at *; omega) (by rw [List.append_nil]; omega) (by simp)
      rw [← hd] at this; exact this) (by kernel_rfl) (by kernel_rfl) fun z w2 L2 N2 => ?_
    refine Hs.run0 300 (fun _ => by kernel_rfl) ?_
    exact Hs.ret (v := readV x.txt.length (r.map Ln.m).length true (y, z)) Tryz.func52 (by kernel_rfl) fun w' H => ⟨(y, z), rfl, N2.only H, fun L hL => (N2.fin H L fun y hy => .inl (hL y hy)).imp fun w h => by
      have h1 := h.1
      rw [List.append_nil] at h1
      exact ⟨h.2.1, h1⟩⟩
  have hkl : k < x.txt.length := by omega
  have e : readL (xs.map Ln.m) k = (x.txt.take k, (x.txt.drop k, x.eof) :: r.map Ln.m, true) := by
    rw [hxr]
    simp only [List.map_cons, readL, if_neg hn0]
    rw [if_neg (show ¬ (k : Int) ≥ (x.m.1.length : Int) from hlt)]; rfl
  rw [e]
  have ht : (x.txt.take k).length = k := by rw [List.length_take, Nat.min_eq_left (by omega)]
  have hdr : (x.txt.drop k).length = x.txt.length - k := List.length_drop
  refine Hs.run0 300 (fun _ => by kernel_rfl) ?_
  refine Hs.callSM (cf := cLn) (E := 128) (size := 2) (fun A c => .slice A xs.length c) (fun zs : List Ln => zs) xs.length (fun zs w => zs.map Ln.m = xs.map Ln.m ∧ ∀ z ∈ zs, LnOk w z) (Nx.start w) (fun w' H => by
    refine Calls.mono (twins_any _ c xs none 0 [] w' (hx.only H.only) (rdL_nil w') (by rw [List.append_nil]; omega) (by rw [List.append_nil]; omega)) ?_
    rw [List.append_nil]
    rintro e w2 ⟨A', c', zs, rfl, O, h1, h2, h3, h4⟩
    exact ⟨A', c', zs, rfl, O, h2, h3, fun L hL => (h4 L hL).imp fun _ h => ⟨h1, h⟩⟩) (by kernel_rfl) (by kernel_rfl) fun A' c' zs w1 L1 hzl N => ?_
  have hzm := N.keeps.at.1.1
  have hzo := N.keeps.at.1.2
  rw [hxr] at hzm
  obtain ⟨z0, zr, hz⟩ : ∃ z0 zr, zs = z0 :: zr := by
    cases zs with
    | nil => cases hzm
    | cons x r => exact ⟨x, r, rfl⟩
  rw [hz] at hzm
  simp only [List.map_cons, List.cons.injEq, Ln.m, Prod.mk.injEq] at hzm
  obtain ⟨⟨hz1, hz2⟩, hz3⟩ := hzm
  have hz0 : zs[0]? = some z0 := by rw [hz]; rfl
  have hz0m : z0 ∈ zs := by rw [hz]; exact List.mem_cons_self
  obtain ⟨tb, to, hzA, _, _⟩ := (hzo z0 hz0m).1 (by rw [hz1]; omega)
  have hzc : x.txt.length ≤ z0.c := by have := (hzo z0 hz0m).2.1; rw [hz1] at this; exact this
  have hzc2 : z0.c ≤ maxLen := (hzo z0 hz0m).2.2
  refine Hs.someS (A := A') (cap := c') (nl := xs.length) (E := 128) (size := 2) (vs := zs.flatMap cLn) 0 (by kernel_rfl) (by omega) fun g hA => ?_
  subst hA
  have hcell : cLn z0 = [.slice (some ⟨tb, to, none⟩) x.txt.length z0.c, .bool x.eof] := by rw [cLn, hzA, hz1, hz2]
  refine Hs.run0 300 (fun _ => by kernel_rfl) ?_
  refine Hs.idx (b := g) (off := 0) (len := xs.length) (c := c') (i := 0) elemLn (by omega) (by kernel_rfl) ?_
  refine Hs.run0 300 (fun _ => by kernel_rfl) ?_
  refine Hs.ldc (E' := 27) (b := g) (off := 0 + 0 * 2 + 0) (.slice (some ⟨tb, to, none⟩) x.txt.length z0.c) (by kernel_rfl) (fun w' H => rdX_cell (l := zs) (x := z0) cLn_len (H.rdX (cf := cLn) (A := some ⟨g, 0, none⟩) (cap := c') (E := 128) (size := 2) 0 hzl (by kernel_rfl)) hz0 (j := 0) (by rw [hcell]; rfl)) (by kernel_rfl) ?_
  refine Hs.run0 300 (fun _ => by kernel_rfl) ?_
  refine Hs.shm elemU8 (g := tb) (off := to) (len := x.txt.length) (cap := z0.c) (i := k) (j := k) (Nat.le_refl _) (by omega) (by kernel_rfl) ?_
  refine Hs.run0 300 (fun _ => by kernel_rfl) ?_
  refine Hs.idx (b := g) (off := 0) (len := xs.length) (c := c') (i := 0) elemLn (by omega) (by kernel_rfl) ?_
  refine Hs.run0 300 (fun _ => by kernel_rfl) ?_
  refine Hs.ldc (E' := 27) (b := g) (off := 0 + 0 * 2 + 0) (.slice (some ⟨tb, to, none⟩) x.txt.length z0.c) (by kernel_rfl) (fun w' H => rdX_cell (l := zs) (x := z0) cLn_len (H.rdX (cf := cLn) (A := some ⟨g, 0, none⟩) (cap := c') (E := 128) (size := 2) 0 hzl (by kernel_rfl)) hz0 (j := 0) (by rw [hcell]; rfl)) (by kernel_rfl) ?_
  refine Hs.run0 300 (fun _ => by kernel_rfl) ?_
  refine Hs.lo (A := some ⟨tb, to, none⟩) (len := x.txt.length) (cap := z0.c) (i := k) elemU8 (by omega) (by kernel_rfl) ?_
  refine Hs.run0 300 (fun _ => by kernel_rfl) ?_
  refine Hs.callM N (fun w' H => by
    have h1 := (N.now H).1.2 z0 hz0m
    unfold LnOk at h1
    rw [hzA, hz1] at h1
    exact cloneB_new (x.txt.drop k) (x.txt.length - k) hdr (loA 1 (some ⟨tb, to, none⟩) k z0.c) (z0.c - k) w' (rdX_lo cu8_len h1.1 (by omega) h1.2.1) (by omega)) (by kernel_rfl) (by kernel_rfl) fun y w2 L2 N2 => ?_
  refine Hs.idx (b := g) (off := 0) (len := xs.length) (c := c') (i := 0) elemLn (by omega) (by kernel_rfl) ?_
  refine Hs.run0 300 (fun _ => by kernel_rfl) ?_
  refine Hs.stc (E' := 27) (g := g) (cap := c') (nl := xs.length) (E := 128) (size := 2) (vs := zs.flatMap cLn) 0 (by kernel_rfl) (0 + 0 * 2 + 0) (by rw [flatMap_len cLn_len, hzl]; omega) (v := .slice y.1 (x.txt.length - k) y.2) rfl rfl (by kernel_rfl) (by kernel_rfl) (by kernel_rfl) ?_
  refine Hs.run0 300 (fun _ => by kernel_rfl) ?_
  have hrow : splice (zs.flatMap cLn) (0 + 0 * 2 + 0) [.slice y.1 (x.txt.length - k) y.2] = ((⟨y.1, y.2, x.txt.drop k, x.eof⟩ : Ln) :: zr).flatMap cLn := by
    rw [hz, List.flatMap_cons, List.flatMap_cons, hcell, cLn, hdr]
    rfl
  exact Hs.ret (v := .tuple #[.slice (some ⟨tb, to, none⟩) k k, .slice (some ⟨g, 0, none⟩) xs.length c', .bool true]) Tryz.func52 (by kernel_rfl) fun w' H => by
    refine ⟨((some ⟨tb, to, none⟩, k), (some ⟨g, 0, none⟩, c', (⟨y.1, y.2, x.txt.drop k, x.eof⟩ : Ln) :: zr)), ?_, N2.only H, fun L hL => ?_⟩
    · rw [readV, ht, hxr]; simp
    · have hlen : ((⟨y.1, y.2, x.txt.drop k, x.eof⟩ : Ln) :: zr).length = xs.length := by rw [← hzl, hz]; rfl
      have ho0 := N2.ownR H (A := some ⟨g, 0, none⟩) (cap := c') (nl := xs.length) (E := 128) (size := 2) (vs := splice (zs.flatMap cLn) (0 + 0 * 2 + 0) [.slice y.1 (x.txt.length - k) y.2]) 0 (by kernel_rfl)
      have ho : OwnX cLn 128 2 w' w.heap.size (.slice (some ⟨g, 0, none⟩) xs.length c') ((⟨y.1, y.2, x.txt.drop k, x.eof⟩ : Ln) :: zr) := by
        unfold OwnX
        rw [hlen, ← hrow]
        exact ho0
      have k2 := N2.fin H L fun y hy => .inl (hL y hy)
      clear H
      obtain ⟨A1, cap1, e1, hc1, hc2, hr, hA⟩ := ho.form
      injection e1 with e1 e2 e3
      subst e1; subst e3
      have k1 : Keeps w' L (fun w => RdX cLn w (some ⟨g, 0, none⟩) ((⟨y.1, y.2, x.txt.drop k, x.eof⟩ : Ln) :: zr)) := rdX_keeps hr fun a ha hx => by
        have := (hA a ha).1
        have := hL _ hx
        omega
      refine (k1.and k2).imp fun w h => ?_
      obtain ⟨h1, h2, ⟨_, h3⟩, _⟩ := h
      have h5 := h3 z0 hz0m
      unfold LnOk at h5
      rw [hzA, hz1] at h5
      refine ⟨⟨rdX_take cu8_len k h5.1 (by omega), by rw [ht]; exact Nat.le_refl _, by show k ≤ maxLen; omega⟩, ⟨h1, hc1, hc2, fun q hq => ?_⟩, ?_⟩
      · rcases List.mem_cons.1 hq with rfl | hq
        · exact h2
        · exact h3 q (by rw [hz]; exact List.mem_cons_of_mem _ hq)
      · rw [List.map_cons, hz3]; rfl
end Go.Proofs.YtnfcdbjckdhieaaGreat
