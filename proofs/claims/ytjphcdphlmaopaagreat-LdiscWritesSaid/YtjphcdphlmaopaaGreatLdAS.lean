/- Layer 16: disciplines compared; bytes written in parts; for all settings; no condition but their size. -/
import Derived.Test.YtjphcdphlmaopaaGreatLdAL
import Derived.Test.YtjphcdphlmaopaaGreatEngAG
namespace Go.Proofs.YtjphcdphlmaopaaGreat
set_option linter.all false
set_option maxRecDepth 100000
open Go.RowKit

def DS.flat (s : DS) : DS := { s with sa := none, sc := 0, xs := [] }
theorem from16_nil (d : DM) (s : DS) (g : Nat) (w : World) (hl : d.lines = []) (h : Blk w g 53 (discV d s)) : Calls Tryz.prog 26 #[.pointer (some ⟨g, 0, none⟩)] w fun e w' => e = .returned (.agg (discV d s.flat).toArray) ∧ Only [] w w' := by
  obtain ⟨t, line, next, lines, raw, st, held, out, col, frm, idle⟩ := d
  have hl : lines = [] := hl
  subst hl
  refine Hs.enter Tryz.func26 [] [g] [.b false 53 (discSC ⟨t, line, next, [], raw, st, held, out, col, frm, idle⟩ s)] [.c (.p 0 0)] (Mem.rdB1 w g h) (by kernel_rfl) (by kernel_rfl) ?_
  refine Hs.run1 300 (fun _ => by kernel_rfl) fun b1 => ?_
  refine Hs.any [0] (by kernel_rfl) ?_
  refine Hs.run1 300 (fun _ => by kernel_rfl) fun b2 => ?_
  refine Hs.loop (by kernel_rfl) ?_
  refine Hs.run0 300 (fun _ => by kernel_rfl) ?_
  refine Hs.condF (by kernel_rfl) ?_
  refine Hs.run0 300 (fun _ => by kernel_rfl) ?_
  exact Hs.ret (v := .agg (discV ⟨t, line, next, [], raw, st, held, out, col, frm, idle⟩ s.flat).toArray) Tryz.func26 (by kernel_rfl) fun w' H => ⟨rfl, H.only⟩
theorem same13_nil (A B : Option Addr) (a b : Nat) (w : World) : Calls Tryz.prog 52 #[.slice A 0 a, .slice B 0 b] w fun e w' => e = .returned (.bool true) ∧ Only [] w w' := by
  refine Hs.enter Tryz.func52 [] [] [] [.c (.v (.slice A 0 a)), .c (.v (.slice B 0 b))] (Mem.start0 w) (by kernel_rfl) (by kernel_rfl) ?_
  refine Hs.run0 300 (fun _ => by kernel_rfl) ?_
  refine Hs.condF (by kernel_rfl) ?_
  refine Hs.run0 300 (fun _ => by kernel_rfl) ?_
  refine Hs.loop (by kernel_rfl) ?_
  refine Hs.run0 300 (fun _ => by kernel_rfl) ?_
  refine Hs.condF (by kernel_rfl) ?_
  refine Hs.run0 300 (fun _ => by kernel_rfl) ?_
  exact Hs.ret (v := .bool true) Tryz.func52 (by kernel_rfl) fun w' H => ⟨rfl, H.only⟩
theorem same16_true (d : DM) (s1 s2 : DS) (w : World) (hl : d.lines = []) (h1 : Data s1 d w) (h2 : Data s2 d w) : Calls Tryz.prog 25 #[.agg (discV d s1.flat).toArray, .agg (discV d s2.flat).toArray] w fun e w' => e = .returned (.bool true) ∧ Only [] w w' := by
  obtain ⟨t, line, next, lines, raw, st, held, out, col, frm, idle⟩ := d
  have hl : lines = [] := hl
  subst hl
  refine Hs.enter Tryz.func25 [] [] [] [.g (discSC ⟨t, line, next, [], raw, st, held, out, col, frm, idle⟩ s1.flat), .g (discSC ⟨t, line, next, [], raw, st, held, out, col, frm, idle⟩ s2.flat)] (Mem.start0 w) (by kernel_rfl) (by kernel_rfl) ?_
  refine Hs.run2 12 (fun _ => by kernel_rfl) fun b0 b1 => ?_
  refine Hs.sameA (op := .eql) (T := 26) (TM.cells t).toArray true (by kernel_rfl) (.inl ⟨rfl, rfl⟩) (by kernel_rfl) ?_
  refine Hs.rung0 [5] 300 (fun _ => by kernel_rfl) ?_
  refine Hs.callV (fun w' H => bytes16_true s1.la s2.la s1.lc s2.lc line line.length line.length rfl rfl w' (h1.line.1.only H.only) (h2.line.1.only H.only) (Nat.le_trans h1.line.2.1 h1.line.2.2)) (by kernel_rfl) ?_
  refine Hs.rung0 [5, 12] 300 (fun _ => by kernel_rfl) ?_
  refine Hs.bool 24 (next == next) (by kernel_rfl) (fun _ => ?_) (fun h => by simp at h)
  refine Hs.rung0 [12, 19] 300 (fun _ => by kernel_rfl) ?_
  refine Hs.callV (fun w' H => same13_nil none none 0 0 w') (by kernel_rfl) ?_
  refine Hs.rung0 [19, 26] 300 (fun _ => by kernel_rfl) ?_
  refine Hs.callV (fun w' H => bytes16_true s1.ra s2.ra s1.rc s2.rc raw raw.length raw.length rfl rfl w' (h1.raw.1.only H.only) (h2.raw.1.only H.only) (Nat.le_trans h1.raw.2.1 h1.raw.2.2)) (by kernel_rfl) ?_
  refine Hs.rung0 [26, 33] 11 (fun _ => by kernel_rfl) ?_
  refine Hs.same (op := .eql) (T := 68) #[.bool st, .bool held] true (by kernel_rfl) (.inl ⟨rfl, rfl⟩) (by kernel_rfl) ?_
  refine Hs.rung0 [33, 40] 300 (fun _ => by kernel_rfl) ?_
  refine Hs.callV (fun w' H => bytes16_true s1.oa s2.oa s1.oc s2.oc out out.length out.length rfl rfl w' (h1.out.1.only H.only) (h2.out.1.only H.only) (Nat.le_trans h1.out.2.1 h1.out.2.2)) (by kernel_rfl) ?_
  refine Hs.rung0 [40, 47] 300 (fun _ => by kernel_rfl) ?_
  refine Hs.bool 59 (col == col) (by kernel_rfl) (fun _ => ?_) (fun h => by simp at h)
  refine Hs.rung0 [47, 54] 300 (fun _ => by kernel_rfl) ?_
  refine Hs.bool 66 (frm == frm) (by kernel_rfl) (fun _ => ?_) (fun h => by simp at h)
  refine Hs.rung0 [54, 61] 300 (fun _ => by kernel_rfl) ?_
  exact Hs.ret (v := .bool (idle == idle)) Tryz.func25 (by kernel_rfl) fun w' H => ⟨by simp, H.only⟩
theorem postC_app (t : TM) (y : List Int) : ∀ (x : List Int) (col : Int), postC t col (x ++ y) = ((postC t (postC t col x).1 y).1, (postC t col x).2 ++ (postC t (postC t col x).1 y).2)
  | [], col => by simp [postC]
  | c :: x, col => by
    have ih := postC_app t y x (writeC t col c).1
    simp only [List.cons_append, postC, ih, List.append_assoc]
theorem within_in {col : Int} (h : 0 ≤ col ∧ col ≤ 65535) : withinC col = col := by
  unfold withinC
  have e6 : decide (col < 0) = false := by simp; omega
  have e7 : decide (col > 65535) = false := by simp; omega
  simp only [e6, e7, Bool.or_false, Bool.false_eq_true, if_false]
theorem fitL_full (t : TM) (room : Int) : ∀ (b : List Int) (col : Int) (n : Nat), ((n + (postC t col b).2.length : Nat) : Int) ≤ room → fitL t room col n b = b.length
  | [], _, _, _ => rfl
  | c :: b, col, n, h => by
    have e : (postC t col (c :: b)).2.length = (writeC t col c).2.length + (postC t (writeC t col c).1 b).2.length := by simp [postC]
    have ih := fitL_full t room b (writeC t col c).1 (n + (writeC t col c).2.length) (by rw [e] at h; omega)
    unfold fitL
    rw [if_neg (by rw [e] at h; omega), ih]
    rfl
/-- All of it fits. -/
theorem fitN_full {d : DM} {b : List Int} (h : d.out.length + 2 * b.length ≤ 4096) : fitN d b = b.length := by
  have hr := (post_rng (t := d.t) (b := b) (within_rng d.col)).2
  unfold fitN
  rw [if_neg (by omega)]
  exact fitL_full d.t _ b (withinC d.col) 0 (by omega)
/-- What New makes, behind so many bytes written. -/
def wroteD (t : TM) (b : List Int) : DM := { newD t with out := (postC t 0 b).2, col := (postC t 0 b).1 }
theorem wrote_new (t : TM) : wroteD t [] = newD t := rfl
theorem wrote_col (t : TM) (b : List Int) : 0 ≤ (wroteD t b).col ∧ (wroteD t b).col ≤ 65535 := (post_rng (t := t) (b := b) (col := 0) (by omega)).1
theorem wrote_out (t : TM) (b : List Int) : (wroteD t b).out.length ≤ 2 * b.length := (post_rng (t := t) (b := b) (col := 0) (by omega)).2
theorem wrote_few {t : TM} {b : List Int} (h : b.length ≤ 1500) : Few (wroteD t b) := ⟨Nat.zero_le _, Nat.zero_le _, by have := wrote_out t b; omega, Nat.zero_le _, Nat.zero_le _⟩
theorem wrote_more {t : TM} {a b : List Int} (h : a.length + b.length ≤ 1500) : fitN (wroteD t a) b = b.length ∧ writeD (wroteD t a) b = wroteD t (a ++ b) := by
  have ho := wrote_out t a
  have hf : fitN (wroteD t a) b = b.length := fitN_full (by omega)
  refine ⟨hf, ?_⟩
  unfold writeD
  rw [hf, List.take_length, within_in (wrote_col t a)]
  show { newD t with out := (postC t 0 a).2 ++ (postC t (postC t 0 a).1 b).2, col := (postC t (postC t 0 a).1 b).1 } = wroteD t (a ++ b)
  unfold wroteD
  rw [postC_app]
end Go.Proofs.YtjphcdphlmaopaaGreat
