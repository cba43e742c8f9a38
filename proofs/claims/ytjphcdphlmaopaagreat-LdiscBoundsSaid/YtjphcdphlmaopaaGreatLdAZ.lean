/- Layer 16: nothing that waits is ever too much: the plain law. No condition. -/
import Derived.Test.YtjphcdphlmaopaaGreatLdAY
namespace Go.Proofs.YtjphcdphlmaopaaGreat
set_option linter.all false
set_option maxRecDepth 100000
open Go.RowKit

/-- Nothing that waits is too much. -/
structure Bd (b : Bool) (d : DM) : Prop where
  line : d.line.length ≤ 254
  used : usedM d.lines ≤ 1025
  raw : d.raw.length ≤ 1024
  out : d.out.length ≤ 4096
  zero : zeroN d.lines = 0
  col : 0 ≤ d.col ∧ d.col ≤ 65535
  idle : 0 ≤ d.idle ∧ d.idle ≤ 1048576
  mn : -9223372036854775808 ≤ d.t.mn ∧ d.t.mn ≤ 9223372036854775807
  tm : -9223372036854775808 ≤ d.t.tm ∧ d.t.tm ≤ 9223372036854775807
  cn : d.t.has 51 = b
  off : b = false → d.lines = []
theorem Bd.few {b : Bool} {d : DM} (h : Bd b d) : Few d := ⟨by have := h.line; omega, by have := h.raw; omega, by have := h.out; omega, by have := h.used; omega, by rw [h.zero]; omega⟩
theorem Bd.rng {b : Bool} {d : DM} (h : Bd b d) : Rng d := ⟨h.mn, h.tm, by have := h.idle; omega⟩
theorem putD_bd {b : Bool} {d : DM} {l : List Int} (h : Bd b d) : Bd b (putD d l).1 := by
  unfold putD
  split
  · exact h
  · exact { h with out := by show (d.out ++ l).length ≤ _; rw [List.length_append]; omega }
theorem showD_bd {b : Bool} {d : DM} {l : List Int} (hf : Bd b d) : Bd b (showD d l) := by
  have h := putD_bd (l := (postC d.t (withinC d.col) l).2) hf
  unfold showD
  split
  · exact { h with col := (post_rng (t := d.t) (b := l) (within_rng d.col)).1 }
  · exact h
theorem echoD_bd {b : Bool} {d : DM} {l : List Int} (hf : Bd b d) : Bd b (echoD d l) := by
  unfold echoD
  split
  · exact showD_bd hf
  · exact hf
theorem beepD_bd {b : Bool} {d : DM} (hf : Bd b d) : Bd b (beepD d) := by
  unfold beepD
  split
  · exact putD_bd hf
  · exact hf
theorem echoOfD_bd {b : Bool} {d : DM} {c : Int} (hf : Bd b d) : Bd b (echoOfD d c) := echoD_bd hf
theorem takeD_bd {b : Bool} {d : DM} {c : Int} {l : List Int} (hf : Bd b d) : Bd b (takeD d c l) := by
  unfold takeD takeL takeR
  split
  · split
    · exact beepD_bd hf
    · exact echoOfD_bd { hf with line := by show (d.line ++ l).length ≤ _; rw [List.length_append]; omega }
  · split
    · exact beepD_bd hf
    · exact echoOfD_bd { hf with raw := by show (d.raw ++ l).length ≤ _; rw [List.length_append]; omega }
theorem putL_bd {ls : List (List Int × Bool)} {x : List Int × Bool} (h1 : usedM ls ≤ 1025) (hx : 1 ≤ sizeM x) : usedM (putL ls x).1 ≤ 1025 ∧ zeroN (putL ls x).1 = zeroN ls := by
  unfold putL
  split
  · exact ⟨h1, rfl⟩
  · have e : usedM (ls ++ [x]) = usedM ls + sizeM x := by rw [usedM_app]; simp [usedM]
    have e2 : zeroN [x] = 0 := by
      unfold zeroN
      have : ¬ sizeM x = 0 := by omega
      simp [this]
    exact ⟨by show usedM (ls ++ [x]) ≤ _; omega, by show zeroN (ls ++ [x]) = _; rw [zeroN_app, e2]; rfl⟩
theorem endD_bd {d : DM} {bt : List Int} {eof : Bool} (hf : Bd true d) (hx : 1 ≤ bt.length + eofN eof) : Bd true (endD d bt eof).1 := by
  have hx2 : 1 ≤ sizeM (d.line ++ bt, eof) := by
    show 1 ≤ (d.line ++ bt).length + eofN eof
    rw [List.length_append]; omega
  have h1 := putL_bd hf.used hx2
  unfold endD
  split
  · exact { hf with line := (by show ([] : List Int).length ≤ _; simp), used := h1.1, zero := (by rw [show zeroN _ = zeroN d.lines from h1.2]; exact hf.zero), off := fun h => by cases h }
  · exact beepD_bd hf
theorem marksD_bd {b : Bool} {d : DM} (hf : Bd b d) : Bd b (marksD d) := putD_bd { hf with }
theorem plainD_bd {b : Bool} {d : DM} {c : Int} (hf : Bd b d) : Bd b (plainD d c) := takeD_bd hf
theorem eofD_bd {d : DM} (hf : Bd true d) : Bd true (eofD d) := endD_bd hf (by decide)
theorem endOfD_bd {d : DM} {c : Int} (hf : Bd true d) : Bd true (endOfD d c) := by
  have := endD_bd (d := d) (bt := [c]) (eof := false) hf (by simp)
  unfold endOfD
  split
  · exact echoOfD_bd this
  · exact this
theorem newlineD_bd {d : DM} {c : Int} (hf : Bd true d) : Bd true (newlineD d c) := by
  have := endD_bd (d := d) (bt := [c]) (eof := false) hf (by simp)
  unfold newlineD
  split
  · exact showD_bd this
  · exact this
theorem literalD_bd {b : Bool} {d : DM} (hf : Bd b d) : Bd b (literalD d) := by
  have : Bd b { d with next := true } := { hf with }
  unfold literalD
  split
  · exact echoD_bd this
  · exact this
theorem cutD_bd {b : Bool} {d : DM} {c : Int} {k : Nat} (hf : Bd b d) : Bd b (cutD d c k) := by
  have hf1 : Bd b { d with line := d.line.take k } := { hf with line := by show (d.line.take k).length ≤ _; rw [List.length_take]; have := hf.line; omega }
  unfold cutD
  split
  · exact hf
  · split
    · exact echoD_bd hf1
    · exact echoOfD_bd hf1
theorem killD_bd {b : Bool} {d : DM} {c : Int} (hf : Bd b d) : Bd b (killD d c) := by
  have hf1 : Bd b { d with line := [] } := { hf with line := by show ([] : List Int).length ≤ _; simp }
  unfold killD
  split
  · exact echoD_bd hf1
  · exact echoD_bd hf1
theorem reprintD_bd {b : Bool} {d : DM} {c : Int} (hf : Bd b d) : Bd b (reprintD d c) := by
  have h := echoD_bd (l := showC d.t c ++ [10]) hf
  exact echoD_bd { h with }
theorem doK_bd {b : Bool} {k : WK} {d : DM} {c : Int} (hk : b = true ∨ k = .plain) (hf : Bd b d) : Bd b (doK k d c) := by
  rcases hk with rfl | rfl
  · cases k
    · exact literalD_bd hf
    · exact cutD_bd hf
    · exact cutD_bd hf
    · exact killD_bd hf
    · exact reprintD_bd hf
    · exact eofD_bd hf
    · exact newlineD_bd hf
    · exact endOfD_bd hf
    · exact plainD_bd hf
  · exact plainD_bd hf
theorem clearD_bd {b : Bool} {d : DM} (hf : Bd b d) : Bd b (clearD d) := { hf with line := Nat.zero_le _, used := Nat.zero_le _, raw := Nat.zero_le _, zero := rfl, off := fun _ => rfl }
theorem send4D_bd {b : Bool} {d : DM} {c : Int} (h1 : Bd b d) : Bd b (send4D d c) := by
  unfold send4D
  refine echoOfD_bd ?_
  split
  · exact { h1 with }
  · exact h1
theorem sendD_bd {b : Bool} {d : DM} {c sig : Int} (hf : Bd b d) : Bd b (sendD d c sig) := by
  have hc := clearD_bd hf
  have h1 : Bd b (if d.t.has 57 then d else if sig != 20 then { clearD d with out := [] } else clearD d) := by
    split
    · exact hf
    · split
      · exact { hc with out := Nat.zero_le _ }
      · exact hc
  exact send4D_bd h1
theorem inputD_bd {b : Bool} {d : DM} {c : Int} (hf : Bd b d) : Bd b (inputD d c).1 := by
  have h1 : Bd b { d with idle := 0, st := typedF d.t d.st (stripC d.t c) } := { hf with idle := by show (0 : Int) ≤ 0 ∧ (0 : Int) ≤ 1048576; omega }
  have h2 : Bd b { d with idle := 0, next := false } := { hf with idle := by show (0 : Int) ≤ 0 ∧ (0 : Int) ≤ 1048576; omega }
  unfold inputD
  split
  · exact marksD_bd (takeD_bd h2)
  · split
    · exact marksD_bd h1
    · split
      · exact marksD_bd (sendD_bd h1)
      · split
        · exact marksD_bd h1
        · refine marksD_bd (doK_bd ?_ h1)
          rw [hf.cn]
          cases b
          · exact .inr rfl
          · exact .inl rfl
theorem inputsD_bd {b : Bool} (l : List Int) : ∀ {d : DM}, Bd b d → Bd b (inputsD d l) := by
  induction l with
  | nil => exact fun h => h
  | cons c l ih => exact fun h => ih (inputD_bd h)
theorem outputD_bd {b : Bool} {d : DM} {n : Int} (hf : Bd b d) : Bd b (outputD d n).1 := by
  unfold outputD
  split
  · exact hf
  · exact { hf with out := by show (d.out.drop _).length ≤ _; have := hf.out; rw [List.length_drop]; omega }
theorem tickD_bd {b : Bool} {d : DM} {n : Int} (hf : Bd b d) : Bd b (tickD d n) := by
  have := hf.idle
  unfold tickD
  split
  · exact { hf with idle := by show 0 ≤ d.idle + n ∧ d.idle + n ≤ 1048576; omega }
  · exact hf
theorem flushD_bd {b : Bool} {d : DM} {n : Int} (hf : Bd b d) : Bd b (flushD d n).1 := by
  have hc := clearD_bd hf
  have h1 : Bd b (if andI n 1 != 0 then { clearD d with next := false } else d) := by
    split
    · exact { hc with }
    · exact hf
  unfold flushD flush2
  split
  · exact hf
  · split
    · exact { h1 with out := Nat.zero_le _ }
    · exact h1
theorem writeD_bd {b : Bool} {d : DM} {l : List Int} (hf : Bd b d) : Bd b (writeD d l) := { hf with out := (by have := writeD_out d l; have := hf.out; omega), col := (post_rng (t := d.t) (b := l.take (fitN d l)) (within_rng d.col)).1 }
theorem readD_bd {b : Bool} {d : DM} {n q : Int} (hf : Bd b d) : Bd b (readD d n q).1 := by
  have h1 := readL_used d.lines n
  have h2 := hf.used
  have h3 := hf.zero
  unfold readD
  split
  · rename_i hi
    have hb : b = true := hf.cn.symm.trans hi
    split
    · exact marksD_bd { hf with used := (by show usedM (readL d.lines n).2.1 ≤ _; omega), zero := (by show zeroN (readL d.lines n).2.1 = 0; omega), off := fun h => by rw [hb] at h; cases h }
    · exact hf
  · split
    · exact marksD_bd { hf with raw := by show (d.raw.drop _).length ≤ _; have := hf.raw; rw [List.length_drop]; omega }
    · exact hf
theorem askD_bd {b : Bool} {d : DM} {n : Int} (hf : Bd b d) : Bd b (askD d n) := by
  unfold askD
  split
  · exact hf
  · exact putD_bd { hf with }
theorem setD_bd {b : Bool} {d : DM} {t : TM} (ht : TOk t) (hf : Bd b d) : ∃ b', Bd b' (setD d t) := by
  have hc := clearD_bd hf
  unfold setD
  split
  · refine ⟨t.has 51, ?_⟩
    unfold set2
    split
    · exact { hc with raw := (by show ((d.raw ++ flatM d.lines ++ d.line).take 1024).length ≤ _; rw [List.length_take]; omega), mn := ht.mn, tm := ht.tm, cn := rfl, off := fun _ => rfl }
    · rename_i h1
      split
      · rename_i h2
        simp at h2
        have hl : d.lines = [] := hf.off (by rw [← hf.cn]; exact h2.1.2)
        have e : d.lines ++ [(d.raw, true)] = [(d.raw, true)] := by rw [hl]; rfl
        have hr := hf.raw
        exact { hf with used := (by show usedM (d.lines ++ [(d.raw, true)]) ≤ _; rw [e]; simp [usedM, sizeM, eofN]; omega), raw := Nat.zero_le _, zero := (by show zeroN (d.lines ++ [(d.raw, true)]) = 0; rw [e]; simp [zeroN, sizeM, eofN]), mn := ht.mn, tm := ht.tm, cn := rfl, off := fun h => by rw [h2.1.1] at h; cases h }
      · exact { hf with mn := ht.mn, tm := ht.tm, cn := rfl, off := fun h => hf.off (by
          rw [← hf.cn]
          simp [h] at h1
          exact h1) }
  · exact ⟨b, hf⟩
theorem doD_bd {b : Bool} {d : DM} {x : OpM} (hx : OpOk x) (hf : Bd b d) : ∃ b', Bd b' (doD d x) := by
  unfold doD
  split
  · exact ⟨b, inputsD_bd _ hf⟩
  split
  · exact ⟨b, writeD_bd hf⟩
  split
  · exact ⟨b, outputD_bd hf⟩
  split
  · exact ⟨b, readD_bd hf⟩
  split
  · exact ⟨b, tickD_bd hf⟩
  split
  · exact setD_bd hx.t hf
  split
  · exact ⟨b, flushD_bd hf⟩
  split
  · exact ⟨b, askD_bd hf⟩
  exact ⟨b, hf⟩
theorem newD_bd {t : TM} (ht : TOk t) : Bd (t.has 51) (newD t) := ⟨Nat.zero_le _, Nat.zero_le _, Nat.zero_le _, Nat.zero_le _, rfl, by show (0 : Int) ≤ 0 ∧ (0 : Int) ≤ 65535; omega, by show (0 : Int) ≤ 0 ∧ (0 : Int) ≤ 1048576; omega, ht.mn, ht.tm, rfl, fun _ => rfl⟩
end Go.Proofs.YtjphcdphlmaopaaGreat
