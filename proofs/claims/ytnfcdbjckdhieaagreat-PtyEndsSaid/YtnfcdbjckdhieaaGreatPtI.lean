/- Layer 17: what a discipline holds grows but slowly through a terminal's steps: the plain law. No condition. -/
import Derived.Test.YtnfcdbjckdhieaaGreatPtG
import Derived.Test.YtnfcdbjckdhieaaGreatLdOpn
namespace Go.Proofs.YtnfcdbjckdhieaaGreat
set_option linter.all false
set_option maxRecDepth 100000
open Go.RowKit

/-- What waits is bounded; the numbers are such as the program has. -/
structure Iv (n : Nat) (d : DM) : Prop where
  used : usedD d ≤ n
  zero : zeroN d.lines ≤ 2000
  out : d.out.length ≤ 14000
  mn : -9223372036854775808 ≤ d.t.mn ∧ d.t.mn ≤ 9223372036854775807
  tm : -9223372036854775808 ≤ d.t.tm ∧ d.t.tm ≤ 9223372036854775807
  idle : -9223372036854775808 ≤ d.idle ∧ d.idle ≤ 9223372036854775807
theorem Iv.few {n : Nat} {d : DM} (h : Iv n d) (hn : n ≤ 20000) : Few d := by
  have h1 := h.used
  unfold usedD at h1
  exact ⟨by omega, by omega, by have := h.out; omega, by omega, by have := h.zero; omega⟩
theorem Iv.rng {n : Nat} {d : DM} (h : Iv n d) : Rng d := ⟨h.mn, h.tm, h.idle⟩
theorem Iv.mono {n m : Nat} {d : DM} (h : Iv n d) (hn : n ≤ m) : Iv m d := { h with used := Nat.le_trans h.used hn }
theorem putD_iv {n : Nat} {d : DM} {l : List Int} (h : Iv n d) : Iv n (putD d l).1 := by
  unfold putD
  split
  · exact h
  · exact ⟨h.used, h.zero, by show (d.out ++ l).length ≤ _; rw [List.length_append]; omega, h.mn, h.tm, h.idle⟩
theorem showD_iv {n : Nat} {d : DM} {l : List Int} (hf : Iv n d) : Iv n (showD d l) := by
  have h := putD_iv (l := (postC d.t (withinC d.col) l).2) hf
  unfold showD
  split
  · exact ⟨h.used, h.zero, h.out, h.mn, h.tm, h.idle⟩
  · exact h
theorem echoD_iv {n : Nat} {d : DM} {l : List Int} (hf : Iv n d) : Iv n (echoD d l) := by
  unfold echoD
  split
  · exact showD_iv hf
  · exact hf
theorem beepD_iv {n : Nat} {d : DM} (hf : Iv n d) : Iv n (beepD d) := by
  unfold beepD
  split
  · exact putD_iv hf
  · exact hf
theorem echoOfD_iv {n : Nat} {d : DM} {c : Int} (hf : Iv n d) : Iv n (echoOfD d c) := echoD_iv hf
theorem takeD_iv {n : Nat} {d : DM} {c : Int} {l : List Int} (hf : Iv n d) (hl : l.length ≤ 3) : Iv (n + 3) (takeD d c l) := by
  have hm := hf.mono (Nat.le_add_right n 3)
  have hu := hf.used
  unfold usedD at hu
  unfold takeD takeL takeR
  split
  · split
    · exact beepD_iv hm
    · exact echoOfD_iv ⟨by show usedM d.lines + (d.line ++ l).length + d.raw.length ≤ _; rw [List.length_append]; omega, hf.zero, hf.out, hf.mn, hf.tm, hf.idle⟩
  · split
    · exact beepD_iv hm
    · exact echoOfD_iv ⟨by show usedM d.lines + d.line.length + (d.raw ++ l).length ≤ _; rw [List.length_append]; omega, hf.zero, hf.out, hf.mn, hf.tm, hf.idle⟩
theorem endD_iv {n : Nat} {d : DM} {bt : List Int} {eof : Bool} (hf : Iv n d) (hx : 1 ≤ bt.length + eofN eof) (hb : bt.length + eofN eof ≤ 3) : Iv (n + 3) (endD d bt eof).1 := by
  have hu := hf.used
  unfold usedD at hu
  have hs : sizeM (d.line ++ bt, eof) = d.line.length + bt.length + eofN eof := by
    show (d.line ++ bt).length + eofN eof = _
    rw [List.length_append]
  unfold endD
  split
  · rename_i h
    have h1 : usedM (putL d.lines (d.line ++ bt, eof)).1 ≤ usedM d.lines + sizeM (d.line ++ bt, eof) ∧ zeroN (putL d.lines (d.line ++ bt, eof)).1 = zeroN d.lines := by
      unfold putL
      split
      · exact ⟨Nat.le_add_right _ _, rfl⟩
      · have e : usedM (d.lines ++ [(d.line ++ bt, eof)]) = usedM d.lines + sizeM (d.line ++ bt, eof) := by rw [usedM_app]; simp [usedM]
        have e2 : zeroN [(d.line ++ bt, eof)] = 0 := by
          unfold zeroN
          have : ¬ sizeM (d.line ++ bt, eof) = 0 := by omega
          simp [this]
        exact ⟨Nat.le_of_eq e, by show zeroN (d.lines ++ [(d.line ++ bt, eof)]) = _; rw [zeroN_app, e2]; rfl⟩
    exact ⟨by show usedM (putL d.lines (d.line ++ bt, eof)).1 + ([] : List Int).length + d.raw.length ≤ _; simp only [List.length_nil]; omega, by rw [show zeroN _ = zeroN d.lines from h1.2]; exact hf.zero, hf.out, hf.mn, hf.tm, hf.idle⟩
  · exact beepD_iv (hf.mono (Nat.le_add_right n 3))
theorem marksD_iv {n : Nat} {d : DM} (hf : Iv n d) : Iv n (marksD d) := putD_iv ⟨hf.used, hf.zero, hf.out, hf.mn, hf.tm, hf.idle⟩
theorem plainD_iv {n : Nat} {d : DM} {c : Int} (hf : Iv n d) : Iv (n + 3) (plainD d c) := takeD_iv hf (by have := mk_le d.t c; omega)
theorem eofD_iv {n : Nat} {d : DM} (hf : Iv n d) : Iv (n + 3) (eofD d) := endD_iv hf (by decide) (by decide)
theorem endOfD_iv {n : Nat} {d : DM} {c : Int} (hf : Iv n d) : Iv (n + 3) (endOfD d c) := by
  have := endD_iv (d := d) (bt := [c]) (eof := false) hf (by simp) (by simp [eofN])
  unfold endOfD
  split
  · exact echoOfD_iv this
  · exact this
theorem newlineD_iv {n : Nat} {d : DM} {c : Int} (hf : Iv n d) : Iv (n + 3) (newlineD d c) := by
  have := endD_iv (d := d) (bt := [c]) (eof := false) hf (by simp) (by simp [eofN])
  unfold newlineD
  split
  · exact showD_iv this
  · exact this
theorem literalD_iv {n : Nat} {d : DM} (hf : Iv n d) : Iv n (literalD d) := by
  have : Iv n { d with next := true } := ⟨hf.used, hf.zero, hf.out, hf.mn, hf.tm, hf.idle⟩
  unfold literalD
  split
  · exact echoD_iv this
  · exact this
theorem line_iv {n : Nat} {d : DM} {l : List Int} (hf : Iv n d) (hl : l.length ≤ d.line.length) : Iv n { d with line := l } := by
  have hu := hf.used
  unfold usedD at hu
  exact ⟨by show usedM d.lines + l.length + d.raw.length ≤ _; omega, hf.zero, hf.out, hf.mn, hf.tm, hf.idle⟩
theorem cutD_iv {n : Nat} {d : DM} {c : Int} {k : Nat} (hf : Iv n d) : Iv n (cutD d c k) := by
  have hf1 : Iv n { d with line := d.line.take k } := line_iv hf (by rw [List.length_take]; omega)
  unfold cutD
  split
  · exact hf
  · split
    · exact echoD_iv hf1
    · exact echoOfD_iv hf1
theorem killD_iv {n : Nat} {d : DM} {c : Int} (hf : Iv n d) : Iv n (killD d c) := by
  have hf1 : Iv n { d with line := [] } := line_iv hf (Nat.zero_le _)
  unfold killD
  split
  · exact echoD_iv hf1
  · exact echoD_iv hf1
theorem reprintD_iv {n : Nat} {d : DM} {c : Int} (hf : Iv n d) : Iv n (reprintD d c) := by
  have h := echoD_iv (l := showC d.t c ++ [10]) hf
  exact echoD_iv ⟨h.used, h.zero, h.out, h.mn, h.tm, h.idle⟩
theorem doK_iv {n : Nat} {k : WK} {d : DM} {c : Int} (hf : Iv n d) : Iv (n + 3) (doK k d c) := by
  have up : ∀ {d : DM}, Iv n d → Iv (n + 3) d := fun h => h.mono (Nat.le_add_right n 3)
  cases k
  · exact up (literalD_iv hf)
  · exact up (cutD_iv hf)
  · exact up (cutD_iv hf)
  · exact up (killD_iv hf)
  · exact up (reprintD_iv hf)
  · exact eofD_iv hf
  · exact newlineD_iv hf
  · exact endOfD_iv hf
  · exact plainD_iv hf
theorem clearD_iv {n : Nat} {d : DM} (hf : Iv n d) : Iv n (clearD d) := ⟨Nat.zero_le _, Nat.zero_le _, hf.out, hf.mn, hf.tm, hf.idle⟩
theorem send4D_iv {n : Nat} {d : DM} {c : Int} (h1 : Iv n d) : Iv n (send4D d c) := by
  unfold send4D
  refine echoOfD_iv ?_
  split
  · exact ⟨h1.used, h1.zero, h1.out, h1.mn, h1.tm, h1.idle⟩
  · exact h1
theorem sendD_iv {n : Nat} {d : DM} {c sig : Int} (hf : Iv n d) : Iv n (sendD d c sig) := by
  have hc := clearD_iv hf
  have h1 : Iv n (if d.t.has 57 then d else if sig != 20 then { clearD d with out := [] } else clearD d) := by
    split
    · exact hf
    · split
      · exact ⟨hc.used, hc.zero, Nat.zero_le _, hc.mn, hc.tm, hc.idle⟩
      · exact hc
  exact send4D_iv h1
theorem inputD_iv {n : Nat} {d : DM} {c : Int} (hf : Iv n d) : Iv (n + 3) (inputD d c).1 := by
  have up : ∀ {d : DM}, Iv n d → Iv (n + 3) d := fun h => h.mono (Nat.le_add_right n 3)
  have z : -9223372036854775808 ≤ (0 : Int) ∧ (0 : Int) ≤ 9223372036854775807 := by omega
  have h1 : Iv n { d with idle := 0, st := typedF d.t d.st (stripC d.t c) } := ⟨hf.used, hf.zero, hf.out, hf.mn, hf.tm, z⟩
  have h2 : Iv n { d with idle := 0, next := false } := ⟨hf.used, hf.zero, hf.out, hf.mn, hf.tm, z⟩
  unfold inputD
  split
  · exact marksD_iv (takeD_iv h2 (by simp))
  · split
    · exact up (marksD_iv h1)
    · split
      · exact up (marksD_iv (sendD_iv h1))
      · split
        · exact up (marksD_iv h1)
        · exact marksD_iv (doK_iv h1)
theorem typeD_iv {n : Nat} (hn : 4098 ≤ n) : ∀ (l : List Int) {d : DM}, Iv n d → Iv n (typeD d l).1
  | [], d, h => h
  | c :: l, d, h => by
    unfold typeD
    split
    · exact h
    · rename_i h1
      have h2 : Iv 4095 d := { h with used := by omega }
      exact typeD_iv hn l ((inputD_iv (c := c) h2).mono (by omega))
theorem outputD_iv {n : Nat} {d : DM} {k : Int} (hf : Iv n d) : Iv n (outputD d k).1 := by
  unfold outputD
  split
  · exact hf
  · exact ⟨hf.used, hf.zero, by show (d.out.drop _).length ≤ _; have := hf.out; rw [List.length_drop]; omega, hf.mn, hf.tm, hf.idle⟩
theorem flushD_iv {n : Nat} {d : DM} {k : Int} (hf : Iv n d) : Iv n (flushD d k).1 := by
  have hc := clearD_iv hf
  have h1 : Iv n (if andI k 1 != 0 then { clearD d with next := false } else d) := by
    split
    · exact ⟨hc.used, hc.zero, hc.out, hc.mn, hc.tm, hc.idle⟩
    · exact hf
  unfold flushD flush2
  split
  · exact hf
  · split
    · exact ⟨h1.used, h1.zero, Nat.zero_le _, h1.mn, h1.tm, h1.idle⟩
    · exact h1
theorem writeD_iv {n : Nat} {d : DM} {l : List Int} (hf : Iv n d) : Iv n (writeD d l) := ⟨hf.used, hf.zero, by have := writeD_out d l; have := hf.out; omega, hf.mn, hf.tm, hf.idle⟩
theorem readD_iv {n : Nat} {d : DM} {k q : Int} (hf : Iv n d) : Iv n (readD d k q).1 := by
  have h1 := readL_used d.lines k
  have h2 := hf.used
  have h3 := hf.zero
  unfold usedD at h2
  unfold readD
  split
  · split
    · exact marksD_iv ⟨by show usedM (readL d.lines k).2.1 + d.line.length + d.raw.length ≤ _; omega, by show zeroN (readL d.lines k).2.1 ≤ _; omega, hf.out, hf.mn, hf.tm, hf.idle⟩
    · exact hf
  · split
    · exact marksD_iv ⟨by show usedM d.lines + d.line.length + (d.raw.drop _).length ≤ _; rw [List.length_drop]; omega, hf.zero, hf.out, hf.mn, hf.tm, hf.idle⟩
    · exact hf
theorem setD_iv {n : Nat} {d : DM} {t : TM} (h1 : -9223372036854775808 ≤ t.mn ∧ t.mn ≤ 9223372036854775807) (h2 : -9223372036854775808 ≤ t.tm ∧ t.tm ≤ 9223372036854775807) (hf : Iv n d) : Iv (n + 1) (setD d t) := by
  have hu := hf.used
  unfold usedD at hu
  have hfl := flatM_le d.lines
  unfold setD
  split
  · unfold set2
    split
    · exact ⟨by show 0 + 0 + ((d.raw ++ flatM d.lines ++ d.line).take 1024).length ≤ _; rw [List.length_take, List.length_append, List.length_append]; omega, Nat.zero_le _, hf.out, h1, h2, hf.idle⟩
    · split
      · rename_i h3
        simp at h3
        have e : usedM (d.lines ++ [(d.raw, true)]) = usedM d.lines + (d.raw.length + 1) := by rw [usedM_app]; simp [usedM, sizeM, eofN]
        have e2 : zeroN [(d.raw, true)] = 0 := by simp [zeroN, sizeM, eofN]
        exact ⟨by show usedM (d.lines ++ [(d.raw, true)]) + d.line.length + 0 ≤ _; rw [e]; omega, by show zeroN (d.lines ++ [(d.raw, true)]) ≤ _; rw [zeroN_app, e2]; exact hf.zero, hf.out, h1, h2, hf.idle⟩
      · exact ⟨by show usedM d.lines + d.line.length + d.raw.length ≤ _; omega, hf.zero, hf.out, h1, h2, hf.idle⟩
  · exact hf.mono (Nat.le_add_right n 1)
end Go.Proofs.YtnfcdbjckdhieaaGreat
