/- Layer 16: plain text typed by lines, and read: what a discipline makes of it; for all settings; no condition. -/
import Derived.Test.YtjphcdphlmaopaaGreatLdAK
namespace Go.Proofs.YtjphcdphlmaopaaGreat
set_option linter.all false
open Go.RowKit

theorem idxW_none {p : WM → Bool} : ∀ {l : List WM}, (∀ x ∈ l, p x = false) → idxW p l = l.length
  | [], _ => rfl
  | x :: l, h => by
    unfold idxW
    rw [if_neg (by rw [h x List.mem_cons_self]; decide), idxW_none fun y hy => h y (List.mem_cons_of_mem _ hy)]
    rfl
theorem way_plain {d : DM} {c : Int} (h : noOp d.t c 18 1 = true) : wayK d c = if c == 10 then .nl else .plain := by
  have h1 : idxW (fitsD d c) waysL = 6 := idxW_none fun x hx => by
    unfold fitsD
    rw [noOp_at d.t c 18 1 h x.op (waysL_ok x hx).1 (by have := (waysL_ok x hx).2; omega)]
    rfl
  have h2 : idxW (fitsD d c) endsL = 2 := idxW_none fun x hx => by
    unfold fitsD
    rw [noOp_at d.t c 18 1 h x.op (endsL_ok x hx).1 (by have := (endsL_ok x hx).2; omega)]
    rfl
  unfold wayK
  rw [h1, h2]
  show (if c == 10 then WK.nl else if decide (2 < 2) then .eol else .plain) = _
  simp
theorem strip_same {t : TM} {c : Int} (h1 : t.has 33 = false) (h2 : t.has 37 = false) : stripC t c = c := by
  unfold stripC smallC lowC
  rw [h1, h2]
  simp
/-- A byte that means nothing. -/
theorem typed_in {d : DM} {c : Int} (hn : d.next = false) (h51 : d.t.has 51 = true) (h33 : d.t.has 33 = false) (h37 : d.t.has 37 = false) (h39 : d.t.has 39 = false) (h34 : d.t.has 34 = false ∨ (c == 10) = false) (hop : noOp d.t c 18 1 = true) (h13 : (c == 13) = false) :
    inputD d c = (marksD (doK (if c == 10 then .nl else .plain) { d with idle := 0 } c), []) := by
  have i8 := noOp_at d.t c 18 1 hop 8 (by decide) (by decide)
  have i9 := noOp_at d.t c 18 1 hop 9 (by decide) (by decide)
  have i1 := noOp_at d.t c 18 1 hop 1 (by decide) (by decide)
  have i2 := noOp_at d.t c 18 1 hop 2 (by decide) (by decide)
  have i10 := noOp_at d.t c 18 1 hop 10 (by decide) (by decide)
  have hs : stripC d.t c = c := strip_same h33 h37
  have hu : typedU d.t c = false := by unfold typedU; rw [i8, i9]; simp
  have hf : typedF d.t d.st c = d.st := by
    unfold typedF typedSt
    rw [i8, i9, h39]
    simp
  have hg : sigN d c = 0 := by
    unfold sigN
    rw [i1, i2, i10]
    simp
  have he : endsOk d.t c = true := by unfold endsOk; rw [h13]; rfl
  have hc : endsC d.t c = c := by
    unfold endsC
    rw [h13]
    rcases h34 with h | h
    · rw [h]; simp
    · rw [h]; simp
  unfold inputD
  rw [hs, hn, hu, hf, hg, he, hc, h51, way_plain hop]
  simp
/-- What of a discipline lies in its lines. -/
structure Core (d : DM) (t : TM) (ls : List (List Int × Bool)) (ln : List Int) : Prop where
  t : d.t = t
  next : d.next = false
  lines : d.lines = ls
  line : d.line = ln
  idle : d.idle = 0
theorem Core.put {d : DM} {t : TM} {ls : List (List Int × Bool)} {ln b : List Int} (h : Core d t ls ln) : Core (putD d b).1 t ls ln := by
  unfold putD
  split
  · exact h
  · exact ⟨h.t, h.next, h.lines, h.line, h.idle⟩
theorem Core.show {d : DM} {t : TM} {ls : List (List Int × Bool)} {ln b : List Int} (h : Core d t ls ln) : Core (showD d b) t ls ln := by
  have h1 : Core (putD d (postC d.t (withinC d.col) b).2).1 t ls ln := h.put
  unfold showD
  split
  · exact ⟨h1.t, h1.next, h1.lines, h1.line, h1.idle⟩
  · exact h1
theorem Core.echo {d : DM} {t : TM} {ls : List (List Int × Bool)} {ln b : List Int} (h : Core d t ls ln) : Core (echoD d b) t ls ln := by
  unfold echoD
  split
  · exact h.show
  · exact h
theorem Core.marks {d : DM} {t : TM} {ls : List (List Int × Bool)} {ln : List Int} (h : Core d t ls ln) : Core (marksD d) t ls ln :=
  Core.put (d := { d with held := _ }) ⟨h.t, h.next, h.lines, h.line, h.idle⟩
theorem Core.char {d : DM} {t : TM} {ls : List (List Int × Bool)} {ln : List Int} (h : Core d t ls ln) (h51 : t.has 51 = true) (h31 : t.has 31 = false) {c : Int} (hl : ln.length ≤ 200) : Core (marksD (plainD { d with idle := 0 } c)) t ls (ln ++ [c]) := by
  refine Core.marks ?_
  have hm : mkC d.t c = [c] := by unfold mkC; rw [h.t, h31]; simp
  unfold plainD
  show Core (takeD { d with idle := 0 } c (mkC d.t c)) t ls (ln ++ [c])
  rw [hm]
  unfold takeD
  rw [if_pos (show d.t.has 51 = true by rw [h.t]; exact h51)]
  unfold takeL
  rw [if_neg (show ¬ d.line.length + [c].length > 254 by rw [h.line]; simp; omega)]
  refine Core.echo ⟨h.t, h.next, h.lines, ?_, rfl⟩
  show d.line ++ [c] = _
  rw [h.line]
theorem Core.nl {d : DM} {t : TM} {ls : List (List Int × Bool)} {ln : List Int} (h : Core d t ls ln) (hl : usedM ls + ln.length ≤ 200) : Core (marksD (newlineD { d with idle := 0 } 10)) t (ls ++ [(ln ++ [10], false)]) [] := by
  refine Core.marks ?_
  have hp : putL d.lines (d.line ++ [10], false) = (d.lines ++ [(d.line ++ [10], false)], true) := by
    unfold putL
    rw [if_neg]
    rw [h.lines, h.line]
    show ¬ usedM ls + ((ln ++ [10]).length + eofN false) > 1024
    rw [List.length_append]
    simp [eofN]
    omega
  have he : endD { d with idle := 0 } [10] false = ({ d with idle := 0, lines := d.lines ++ [(d.line ++ [10], false)], line := [] }, true) := by
    unfold endD
    show (if (putL d.lines (d.line ++ [10], false)).2 then _ else _) = _
    rw [hp]
    rfl
  have hc : Core { d with idle := 0, lines := d.lines ++ [(d.line ++ [10], false)], line := [] } t (ls ++ [(ln ++ [10], false)]) [] := ⟨h.t, h.next, by show d.lines ++ [(d.line ++ [10], false)] = _; rw [h.lines, h.line], rfl, rfl⟩
  unfold newlineD
  rw [he]
  split
  · exact hc.show
  · exact hc
/-- Text, cut at its ends of lines: the lines, what is behind them. -/
def spl (s : List (List Int) × List Int) (c : Int) : List (List Int) × List Int := if c == 10 then (s.1 ++ [s.2 ++ [c]], []) else (s.1, s.2 ++ [c])
def splL (l : List Int) : List (List Int) × List Int := l.foldl spl ([], [])
theorem splL_snoc (l : List Int) (c : Int) : splL (l ++ [c]) = spl (splL l) c := by simp [splL]
def lnsM (ws : List (List Int)) : List (List Int × Bool) := ws.map fun l => (l, false)
theorem lnsM_app (a b : List (List Int)) : lnsM (a ++ b) = lnsM a ++ lnsM b := by simp [lnsM]
theorem splL_len : ∀ (n : Nat) (l : List Int), l.length = n → usedM (lnsM (splL l).1) + (splL l).2.length = n
  | 0, l, h => by
    have := List.length_eq_zero_iff.1 h
    subst this
    rfl
  | n + 1, l, h => by
    obtain ⟨l', c, rfl⟩ : ∃ l' c, l = l' ++ [c] := by
      refine ⟨l.dropLast, l.getLast (by intro e; rw [e] at h; cases h), (List.dropLast_concat_getLast _).symm⟩
    have ih := splL_len n l' (by simpa using h)
    rw [splL_snoc]
    unfold spl
    split
    · rw [lnsM_app, usedM_app]
      have e : usedM (lnsM [(splL l').2 ++ [c]]) = (splL l').2.length + 1 := by simp [usedM, lnsM, sizeM, eofN]
      rw [e]
      show _ + 0 = _
      omega
    · simp only [List.length_append, List.length_singleton]
      omega
theorem splL_pos : ∀ (n : Nat) (l : List Int), l.length = n → ∀ w ∈ (splL l).1, 0 < w.length
  | 0, l, h => by
    have := List.length_eq_zero_iff.1 h
    subst this
    intro w hw; cases hw
  | n + 1, l, h => by
    obtain ⟨l', c, rfl⟩ : ∃ l' c, l = l' ++ [c] := by
      refine ⟨l.dropLast, l.getLast (by intro e; rw [e] at h; cases h), (List.dropLast_concat_getLast _).symm⟩
    have ih := splL_pos n l' (by simpa using h)
    rw [splL_snoc]
    unfold spl
    split
    · intro w hw
      rcases List.mem_append.1 hw with h1 | h1
      · exact ih w h1
      · rw [List.mem_singleton.1 h1]; simp
    · exact ih
/-- The setting that LdiscLines types with. -/
def lineT (t : TM) : TM := (((((t.set 51 true).set 33 false).set 37 false).set 31 false).set 34 false).set 39 false
theorem lineT_has (t : TM) : (lineT t).has 51 = true ∧ (lineT t).has 33 = false ∧ (lineT t).has 37 = false ∧ (lineT t).has 31 = false ∧ (lineT t).has 34 = false ∧ (lineT t).has 39 = false := by
  unfold lineT
  refine ⟨?_, ?_, ?_, ?_, ?_, ?_⟩ <;>
  · repeat rw [set_has _ _ _ _ (by rfl)]
    rfl
/-- One byte of plain text. -/
theorem line_step {d : DM} {t0 : TM} {l : List Int} {c : Int} (h : Core d (lineT t0) (lnsM (splL l).1) (splL l).2) (hl : l.length < 200) (hc : c = 10 ∨ plainB (lineT t0) c = true) (h10 : noOp (lineT t0) 10 18 1 = true) : (inputD d c).2 = [] ∧ Core (inputD d c).1 (lineT t0) (lnsM (splL (l ++ [c])).1) (splL (l ++ [c])).2 := by
  obtain ⟨k51, k33, k37, k31, k34, k39⟩ := lineT_has t0
  have hn := splL_len l.length l rfl
  have hop : noOp (lineT t0) c 18 1 = true ∧ (c == 13) = false := by
    rcases hc with rfl | h1
    · exact ⟨h10, rfl⟩
    · unfold plainB at h1
      simp only [Bool.and_eq_true, Bool.not_eq_true'] at h1
      exact ⟨h1.2.2, h1.2.1⟩
  have e := typed_in (d := d) (c := c) h.next (by rw [h.t]; exact k51) (by rw [h.t]; exact k33) (by rw [h.t]; exact k37) (by rw [h.t]; exact k39) (.inl (by rw [h.t]; exact k34)) (by rw [h.t]; exact hop.1) hop.2
  rw [e, splL_snoc]
  refine ⟨rfl, ?_⟩
  unfold spl
  by_cases h1 : c = 10
  · subst h1
    have e10 : ((10 : Int) == 10) = true := rfl
    simp only [e10, if_true]
    rw [lnsM_app]
    exact h.nl (by omega)
  · have e10 : (c == 10) = false := by simpa using h1
    simp only [e10, Bool.false_eq_true, if_false]
    exact h.char k51 k31 (by omega)
/-- A read of a line's beginning. -/
theorem line_read {d : DM} {t : TM} {w ln : List Int} {ws : List (List Int)} {k : Nat} (h51 : t.has 51 = true) (h : Core d t (lnsM (w :: ws)) ln) (hk : 0 < k) : (readD d k 0).2.1 = w.take (min k w.length) ∧ (readD d k 0).2.2 = true ∧ Core (readD d k 0).1 t (if k < w.length then lnsM (w.drop k :: ws) else lnsM ws) ln := by
  have e1 : readL d.lines (k : Int) = if k < w.length then (w.take k, (w.drop k, false) :: lnsM ws, true) else (w, lnsM ws, true) := by
    rw [h.lines]
    show readL ((w, false) :: lnsM ws) (k : Int) = _
    simp only [readL]
    rw [if_neg (by omega)]
    by_cases h1 : k < w.length
    · rw [if_neg (by show ¬ (k : Int) ≥ (w.length : Int); omega), if_pos h1]
      rfl
    · rw [if_pos (by show (k : Int) ≥ (w.length : Int); omega), if_neg h1]
  have e2 : readD d (k : Int) 0 = (marksD { d with lines := (readL d.lines (k : Int)).2.1 }, (readL d.lines (k : Int)).1, true) := by
    unfold readD
    rw [if_pos (by rw [h.t]; exact h51), if_pos (by rw [e1]; split <;> rfl)]
  rw [e2, e1]
  by_cases h1 : k < w.length
  · rw [if_pos h1, if_pos h1]
    exact ⟨by rw [Nat.min_eq_left (by omega)], rfl, Core.marks ⟨h.t, h.next, rfl, h.line, h.idle⟩⟩
  · rw [if_neg h1, if_neg h1]
    exact ⟨by rw [Nat.min_eq_right (by omega), List.take_length], rfl, Core.marks ⟨h.t, h.next, rfl, h.line, h.idle⟩⟩
theorem line_none {d : DM} {t : TM} {ln : List Int} {k : Int} (h51 : t.has 51 = true) (h : Core d t (lnsM []) ln) : readD d k 0 = (d, [], false) := by
  unfold readD
  rw [if_pos (by rw [h.t]; exact h51), h.lines]
  rfl
end Go.Proofs.YtjphcdphlmaopaaGreat
