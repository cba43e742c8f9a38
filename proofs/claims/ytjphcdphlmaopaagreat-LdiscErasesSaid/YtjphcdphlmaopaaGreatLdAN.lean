/- Layer 16: text typed, shown and erased: what a discipline makes of it; for all settings; no condition. -/
import Derived.Test.YtjphcdphlmaopaaGreatLdAL
namespace Go.Proofs.YtjphcdphlmaopaaGreat
set_option linter.all false
open Go.RowKit

/-- The setting that LdiscErases types with. -/
def eraT (t : TM) : TM := (((((((((t.set 51 true).set 53 true).set 54 true).set 60 true).set 33 false).set 37 false).set 31 false).set 71 false).set 42 false).set 39 false
structure EraT (t : TM) : Prop where
  h51 : t.has 51 = true
  h53 : t.has 53 = true
  h54 : t.has 54 = true
  h33 : t.has 33 = false
  h37 : t.has 37 = false
  h31 : t.has 31 = false
  h71 : t.has 71 = false
  h42 : t.has 42 = false
  h39 : t.has 39 = false
theorem eraT_has (t : TM) : EraT (eraT t) := by
  unfold eraT
  refine ⟨?_, ?_, ?_, ?_, ?_, ?_, ?_, ?_, ?_⟩ <;>
  · repeat rw [set_has _ _ _ _ (by rfl)]
    rfl
theorem col_char {t : TM} {col c : Int} (h42 : t.has 42 = false) (hc : 32 ≤ c ∧ c < 127) (h : 0 ≤ col ∧ col ≤ 60000) : colC t col c = col + 1 := by
  unfold colC
  have e1 : (c == 9) = false := by simp; omega
  have e2 : (c == 8) = false := by simp; omega
  have e3 : (c == 13) = false := by simp; omega
  have e4 : decide (c < 32) = false := by simp; omega
  have e5 : (c == 127) = false := by simp; omega
  simp only [e1, e2, e3, e4, e5, h42, Bool.and_false, Bool.or_false, Bool.false_eq_true, if_false]
  unfold withinC
  have e6 : decide (col + 1 < 0) = false := by simp; omega
  have e7 : decide (col + 1 > 65535) = false := by simp; omega
  simp only [e6, e7, Bool.or_false, Bool.false_eq_true, if_false]
theorem write_char {t : TM} {col c : Int} (h42 : t.has 42 = false) (h71 : t.has 71 = false) (hc : 32 ≤ c ∧ c < 127) (h : 0 ≤ col ∧ col ≤ 60000) : writeC t col c = (col + 1, [c]) := by
  unfold writeC
  have e3 : (c == 13) = false := by simp; omega
  have e10 : (c == 10) = false := by simp; omega
  rw [col_char h42 hc h]
  simp only [e3, e10, h71, Bool.and_false, Bool.false_and, Bool.false_eq_true, if_false, ite_self]
theorem write_back {t : TM} {col : Int} (h71 : t.has 71 = false) (h : 1 ≤ col) : writeC t col 8 = (col - 1, [8]) := by
  have e : colC t col 8 = col - 1 := by
    unfold colC
    have e1 : ((8 : Int) == 9) = false := rfl
    have e2 : ((8 : Int) == 8) = true := rfl
    simp only [e1, e2, Bool.false_eq_true, if_false, if_true]
    split <;> omega
  unfold writeC
  rw [e]
  have e3 : ((8 : Int) == 13) = false := rfl
  have e10 : ((8 : Int) == 10) = false := rfl
  simp only [e3, e10, h71, Bool.and_false, Bool.false_and, Bool.false_eq_true, if_false, ite_self]
theorem within_same {col : Int} (h : 0 ≤ col ∧ col ≤ 60000) : withinC col = col := by
  unfold withinC
  have e6 : decide (col < 0) = false := by simp; omega
  have e7 : decide (col > 65535) = false := by simp; omega
  simp only [e6, e7, Bool.or_false, Bool.false_eq_true, if_false]
theorem quiet_char {c : Int} (hc : 32 ≤ c ∧ c < 127) : quietC c = false := by
  unfold quietC
  have e4 : decide (c < 32) = false := by simp; omega
  have e5 : (c == 127) = false := by simp; omega
  rw [e4, e5]; rfl
theorem step_char {t : TM} {col c : Int} (h42 : t.has 42 = false) (hc : 32 ≤ c ∧ c < 127) (h : 0 ≤ col ∧ col ≤ 60000) : stepC t col c = col + 1 := by
  unfold stepC stepA hatC
  rw [within_same h, quiet_char hc, h42]
  have e1 : (c == 9) = false := by simp; omega
  simp only [e1, Bool.false_and, Bool.and_false, Bool.or_false, Bool.false_eq_true, if_false]
theorem cols_chars {t : TM} (h42 : t.has 42 = false) : ∀ (l : List Int) (col : Int), (∀ c ∈ l, 32 ≤ c ∧ c < 127) → 0 ≤ col → col + l.length ≤ 60000 → l.foldl (stepC t) col = col + l.length
  | [], col, _, _, _ => by simp
  | c :: l, col, hc, h0, h1 => by
    simp only [List.length_cons] at h1
    rw [List.foldl_cons, step_char h42 (hc c List.mem_cons_self) (by omega), cols_chars h42 l (col + 1) (fun x hx => hc x (List.mem_cons_of_mem _ hx)) (by omega) (by omega)]
    simp only [List.length_cons]
    omega
/-- A line being typed, and shown. -/
structure Shown (d : DM) (t : TM) (ln : List Int) (n : Nat) : Prop where
  t : d.t = t
  next : d.next = false
  lines : d.lines = []
  raw : d.raw = []
  line : d.line = ln
  col : d.col = ln.length
  frm : d.frm = 0
  held : d.held = false
  out : d.out.length ≤ n
theorem Shown.marks {d : DM} {t : TM} {ln : List Int} {n : Nat} (h : Shown d t ln n) (hl : ln.length ≤ 200) (hn : n ≤ 4000) : Shown (marksD d) t ln n := by
  have hu : usedD d = ln.length := by
    unfold usedD
    rw [h.lines, h.raw, h.line]
    simp [usedM]
  have hm : markH d.t d.held (usedD d) 256 768 = false := by
    unfold markH
    have e : decide (((usedD d : Nat) : Int) ≥ 768) = false := by simp; omega
    rw [h.held, e]
    simp
  have ho : markO d.t d.held (usedD d) 256 768 = [] := by
    unfold markO
    have e : decide (((usedD d : Nat) : Int) ≥ 768) = false := by simp; omega
    rw [h.held, e]
    simp
  have e : marksD d = { d with held := false, out := d.out ++ [] } := by
    unfold marksD putD
    rw [hm, ho, if_neg (by show ¬ d.out.length + 0 > 4096; have := h.out; omega)]
  rw [e]
  exact ⟨h.t, h.next, h.lines, h.raw, h.line, h.col, h.frm, rfl, by show (d.out ++ []).length ≤ n; rw [List.append_nil]; exact h.out⟩
theorem show_put {d : DM} {b : List Int} {col : Int} {o : List Int} (hp : postC d.t (withinC d.col) b = (col, o)) (ho : d.out.length + o.length ≤ 4096) : showD d b = { d with out := d.out ++ o, col := col } := by
  have e : putD d o = ({ d with out := d.out ++ o }, true) := by unfold putD; rw [if_neg (by omega)]
  unfold showD
  rw [hp]
  show (if (putD d o).2 = true then { (putD d o).1 with col := col } else (putD d o).1) = _
  rw [e]
  rfl
theorem Shown.char {d : DM} {t : TM} {ln : List Int} {n : Nat} (h : Shown d t ln n) (ht : EraT t) {c : Int} (hc : 32 ≤ c ∧ c < 127) (hl : ln.length < 200) (hn : n ≤ 3000) : Shown (marksD (plainD { d with idle := 0 } c)) t (ln ++ [c]) (n + 1) := by
  refine Shown.marks ?_ (by simp; omega) (by omega)
  have hm : mkC d.t c = [c] := by unfold mkC; rw [h.t, ht.h31]; simp
  have hs : showC d.t c = [c] := by
    unfold showC hatC
    rw [quiet_char hc]
    rfl
  have hfrm : (if d.line.length = 0 then d.col else d.frm) = 0 := by
    split
    · rename_i h0
      rw [h.line] at h0
      rw [h.col, h0]; rfl
    · exact h.frm
  have hp : postC d.t (withinC d.col) [c] = (d.col + 1, [c]) := by
    rw [within_same (by rw [h.col]; omega)]
    simp only [postC]
    rw [h.t, write_char ht.h42 ht.h71 hc (by rw [h.col]; omega)]
    rfl
  unfold plainD
  show Shown (takeD { d with idle := 0 } c (mkC d.t c)) t (ln ++ [c]) (n + 1)
  rw [hm]
  unfold takeD
  rw [if_pos (show d.t.has 51 = true by rw [h.t]; exact ht.h51)]
  unfold takeL
  rw [if_neg (show ¬ d.line.length + [c].length > 254 by rw [h.line]; simp; omega)]
  show Shown (echoD { d with idle := 0, line := d.line ++ [c], frm := if d.line.length = 0 then d.col else d.frm } (showC d.t c)) t (ln ++ [c]) (n + 1)
  rw [hs, hfrm]
  unfold echoD
  rw [if_pos (show d.t.has 53 = true by rw [h.t]; exact ht.h53), show_put (d := { d with idle := 0, line := d.line ++ [c], frm := 0 }) (b := [c]) hp (by show d.out.length + [c].length ≤ 4096; have := h.out; simp; omega)]
  exact ⟨h.t, h.next, h.lines, h.raw, by show d.line ++ [c] = _; rw [h.line], by show d.col + 1 = _; rw [h.col]; simp, rfl, h.held, by show (d.out ++ [c]).length ≤ n + 1; rw [List.length_append]; have := h.out; simp; omega⟩
theorem rub_one {t : TM} (h42 : t.has 42 = false) {l : List Int} {c : Int} (hl : ∀ x ∈ l, 32 ≤ x ∧ x < 127) (hc : 32 ≤ c ∧ c < 127) (hn : l.length ≤ 1000) : rubC t 0 l [c] = [8, 32, 8] := by
  have h0 : colsC t 0 l = l.length := by
    unfold colsC
    rw [within_same (by omega), cols_chars h42 l 0 hl (by omega) (by omega)]
    omega
  have h1 : colsC t (l.length : Int) [c] = l.length + 1 := by
    unfold colsC
    rw [within_same (by omega), cols_chars h42 [c] l.length (fun x hx => by rw [List.mem_singleton.1 hx]; exact hc) (by omega) (by simp; omega)]
    rfl
  unfold rubC
  rw [h0, h1, show ((l.length : Int) + 1 - (l.length : Int)).toNat = 1 by omega]
  rfl
/-- No character but that of erasing is this byte. -/
def noOp3 (t : TM) (c : Int) : Nat → Nat → Bool
  | 0, _ => true
  | k + 1, i => !(!(i == 3) && t.is i c) && noOp3 t c k (i + 1)
theorem noOp3_at (t : TM) (c : Int) : ∀ (k i : Nat), noOp3 t c k i = true → ∀ j, i ≤ j → j < i + k → j ≠ 3 → t.is j c = false
  | 0, i, _, j, h1, h2, _ => by omega
  | k + 1, i, h, j, h1, h2, h3 => by
    unfold noOp3 at h
    simp only [Bool.and_eq_true, Bool.not_eq_true'] at h
    rcases Nat.eq_or_lt_of_le h1 with rfl | h4
    · have := h.1
      have e : (i == 3) = false := by simpa using h3
      rw [e] at this
      simpa using this
    · exact noOp3_at t c k (i + 1) h.2 j (by omega) (by omega) h3
theorem erase_in {d : DM} {t : TM} {c : Int} (ht : EraT t) (hd : d.t = t) (hn : d.next = false) (h3 : t.is 3 c = true) (hop : noOp3 t c 18 1 = true) (h13 : (c == 13) = false) (h10 : (c == 10) = false) :
    (inputD d c).1 = marksD (eraseD { d with idle := 0 } c) := by
  subst hd
  have no := fun j h1 h2 h4 => noOp3_at d.t c 18 1 hop j h1 h2 h4
  have i8 := no 8 (by decide) (by decide) (by decide)
  have i9 := no 9 (by decide) (by decide) (by decide)
  have i1 := no 1 (by decide) (by decide) (by decide)
  have i2 := no 2 (by decide) (by decide) (by decide)
  have i10 := no 10 (by decide) (by decide) (by decide)
  have i14 := no 14 (by decide) (by decide) (by decide)
  have hs : stripC d.t c = c := strip_same ht.h33 ht.h37
  have hu : typedU d.t c = false := by unfold typedU; rw [i8, i9]; simp
  have hf : typedF d.t d.st c = d.st := by
    unfold typedF typedSt
    rw [i8, i9, ht.h39]
    simp
  have hg : sigN d c = 0 := by
    unfold sigN
    rw [i1, i2, i10]
    simp
  have he : endsOk d.t c = true := by unfold endsOk; rw [h13]; rfl
  have hc : endsC d.t c = c := by
    unfold endsC
    rw [h13, h10]
    simp
  have hw : wayK d c = .era := by
    have h1 : idxW (fitsD d c) waysL = 1 := by
      unfold waysL idxW fitsD
      show (if (d.t.is 14 c && _) = true then _ else _) = _
      rw [i14]
      simp only [Bool.false_and, Bool.false_eq_true, if_false]
      unfold idxW
      show (if (d.t.is 3 c && _) = true then _ else _) + 1 = _
      rw [h3]
      rfl
    unfold wayK
    rw [h1]
    rfl
  unfold inputD
  rw [hs, hn, hu, hf, hg, he, hc, ht.h51, hw]
  simp only [Bool.false_eq_true, if_false, if_true, Bool.not_true, Int.lt_irrefl, gt_iff_lt]
  rfl
theorem Shown.erase {d : DM} {t : TM} {ln : List Int} {x : Int} {n : Nat} (h : Shown d t (ln ++ [x]) n) (ht : EraT t) {c : Int} (hx : ∀ y ∈ ln ++ [x], 32 ≤ y ∧ y < 127) (hl : ln.length < 200) (hn : n ≤ 3000) : Shown (marksD (eraseD { d with idle := 0 } c)) t ln (n + 3) := by
  refine Shown.marks ?_ (by omega) (by omega)
  have hsc : startC d.t d.line = ln.length := by
    unfold startC
    rw [h.t, ht.h42, h.line]
    simp
  have e1 : d.line.take ln.length = ln := by rw [h.line, List.take_left]
  have e2 : d.line.drop ln.length = [x] := by rw [h.line, List.drop_left]
  have hr : rubC d.t d.frm ln [x] = [8, 32, 8] := by
    rw [h.frm, h.t]
    exact rub_one ht.h42 (fun y hy => hx y (List.mem_append_left _ hy)) (hx x (by simp)) (by omega)
  have hcol : d.col = (ln.length : Int) + 1 := by rw [h.col]; simp
  have hp : postC d.t (withinC d.col) [8, 32, 8] = (d.col - 1, [8, 32, 8]) := by
    rw [within_same (by omega), h.t]
    have a1 : writeC t d.col 8 = (d.col - 1, [8]) := write_back ht.h71 (by omega)
    have a2 : writeC t (d.col - 1) 32 = (d.col - 1 + 1, [32]) := write_char ht.h42 ht.h71 (by decide) (by omega)
    have a3 : writeC t (d.col - 1 + 1) 8 = (d.col - 1 + 1 - 1, [8]) := write_back ht.h71 (by omega)
    simp only [postC, a1, a2, a3, Prod.mk.injEq]
    exact ⟨by omega, rfl⟩
  unfold eraseD
  show Shown (cutD { d with idle := 0 } c (startC d.t d.line)) t ln (n + 3)
  rw [hsc]
  unfold cutD
  show Shown (if (d.line.drop ln.length).length = 0 then _ else if d.t.has 54 = true then echoD { d with idle := 0, line := d.line.take ln.length } (rubC d.t d.frm (d.line.take ln.length) (d.line.drop ln.length)) else _) t ln (n + 3)
  rw [e1, e2, hr, if_neg (by simp), if_pos (by rw [h.t]; exact ht.h54)]
  unfold echoD
  rw [if_pos (show d.t.has 53 = true by rw [h.t]; exact ht.h53), show_put (d := { d with idle := 0, line := ln }) (b := [8, 32, 8]) hp (by show d.out.length + [8, 32, 8].length ≤ 4096; have := h.out; simp; omega)]
  exact ⟨h.t, h.next, h.lines, h.raw, rfl, by show d.col - 1 = _; omega, h.frm, h.held, by show (d.out ++ [8, 32, 8]).length ≤ n + 3; rw [List.length_append]; have := h.out; simp; omega⟩
end Go.Proofs.YtjphcdphlmaopaaGreat
