/- Layer 9: bytes as they are mapped; layer 16: text typed without ICANON; for all settings; no condition but the text's size. -/
import Derived.Test.YtjphcdphlmaopaaGreatLdAL
namespace Go.Proofs.YtjphcdphlmaopaaGreat
set_option linter.all false
set_option maxRecDepth 100000
open Go.RowKit

def mapC (t : TM) (c : Int) : List Int := if endsOk t (stripC t c) then mkC t (endsC t (stripC t c)) else []
def mapL (t : TM) (l : List Int) : List Int := l.flatMap (mapC t)
theorem mapC_le (t : TM) (c : Int) : (mapC t c).length ≤ 2 := by
  unfold mapC
  split
  · exact mk_le t _
  · simp
theorem mapL_le (t : TM) : ∀ l : List Int, (mapL t l).length ≤ 2 * l.length
  | [] => by simp [mapL]
  | c :: l => by
    have := mapL_le t l
    have := mapC_le t c
    simp only [mapL, List.flatMap_cons, List.length_append, List.length_cons] at *
    omega
theorem mapL_snoc (t : TM) (l : List Int) (c : Int) : mapL t (l ++ [c]) = mapL t l ++ mapC t c := by simp [mapL]
theorem map_any (t : TM) (A : Option Addr) (cap : Nat) (b : List Int) (w : World) (hb : RdX cu8 w A b) (hle : b.length ≤ cap) (hcap : cap ≤ maxLen) (hn : b.length ≤ 500000) : Calls Tryz.prog 23 #[t.val, .slice A b.length cap] w (OwnU (mapL t b) w fun A cap => .slice A (mapL t b).length cap) := by
  have hlen : b.length ≤ maxLen := Nat.le_trans hle hcap
  have J : ∀ (d i : Nat), b.length - i = d → i ≤ b.length → ∀ (b0 : Nat) (A2 : Option Addr) (c2 n2 : Nat) (l2 : List Int), l2 = mapL t (b.take i) → l2.length = n2 → ∀ (u : Nat → Value), Hs Tryz.prog 23 (OwnU (mapL t b) w fun A cap => .slice A (mapL t b).length cap) (Tryz.f23).ntmps w [] [b0, 0] ⟨.no, loopAt Tryz.f23 0, pins [(2, .c (.p 0 0)), (5, .c (.v (.slice A2 n2 c2))), (10, .c (.v (.slice A b.length cap))), (11, .c (.v (.int .i64 b.length))), (12, .c (.v (.int .i64 i)))] (.vals u), [.b true 26 t.sc, .s A2 c2 n2 5 1 (l2.flatMap cu8)]⟩ := by
    intro d
    induction d with
    | zero =>
      intro i hd hi b0 A2 c2 n2 l2 hl2 hn2 u
      obtain rfl : i = b.length := by omega
      rw [List.take_length] at hl2
      subst hl2
      subst hn2
      refine Hs.run0 300 (fun _ => by kernel_rfl) ?_
      refine Hs.condP ((b.length : Int) < (b.length : Int)) (by kernel_rfl) (fun h => by omega) (fun h => ?_)
      refine Hs.run0 300 (fun _ => by kernel_rfl) ?_
      exact Hs.ret (v := .slice A2 (mapL t b).length c2) Tryz.func23 (by kernel_rfl) fun w' H => ⟨A2, c2, rfl, H.only, H.fresh 1 rfl (by kernel_rfl)⟩
    | succ d ih =>
      intro i hd hi b0 A2 c2 n2 l2 hl2 hn2 u
      have hil : i < b.length := by omega
      obtain ⟨x, hx⟩ : ∃ x, b[i]? = some x := ⟨_, List.getElem?_eq_getElem hil⟩
      have htk : b.take (i + 1) = b.take i ++ [x] := by rw [List.take_add_one, hx]; rfl
      obtain ⟨ab, aoff, hA, _, _⟩ := hb (by omega)
      subst hA
      have hl3 : mapL t (b.take (i + 1)) = l2 ++ mapC t x := by rw [htk, mapL_snoc, hl2]
      have hle2 := mapL_le t (b.take i)
      rw [← hl2, hn2, List.length_take, Nat.min_eq_left hi] at hle2
      refine Hs.run0 300 (fun _ => by kernel_rfl) ?_
      refine Hs.condP ((i : Int) < (b.length : Int)) (by kernel_rfl) (fun h => ?_) (fun h => by omega)
      refine Hs.run0 300 (fun _ => by kernel_rfl) ?_
      refine Hs.idx (b := ab) (off := aoff) (c := cap) elemU8 hil (by kernel_rfl) ?_
      refine Hs.ldc (E' := 5) (b := ab) (off := aoff + i * 1) (.int .u8 x) (by kernel_rfl) (fun w' H => u8_cell (hb.only H.only) hx) (by kernel_rfl) ?_
      refine Hs.run0 300 (fun _ => by kernel_rfl) ?_
      refine Hs.callV (fun w' H => through03_any t x w') (by kernel_rfl) ?_
      refine Hs.run0 300 (fun _ => by kernel_rfl) ?_
      refine Hs.cond (endsOk t (stripC t x)) (by kernel_rfl) (fun h => ?_) (fun h => ?_)
      · have hm : mapC t x = mkC t (endsC t (stripC t x)) := by unfold mapC; rw [if_pos h]
        rw [hm] at hl3
        have hsl := mk_le t (endsC t (stripC t x))
        generalize endsC t (stripC t x) = y at hl3 hsl
        refine Hs.run0 300 (fun _ => by kernel_rfl) ?_
        refine Hs.callS (cf := cu8) (E := 5) (size := 1) (fun A cap => .slice A (mkC t y).length cap) (mkC t y) _ rfl (fun w' H => miMark_any t y w') (by kernel_rfl) (by kernel_rfl) fun A4 c4 h4 h5 => ?_
        refine Hs.app (c := c4) (ty := 27) 1 elemU8 l2 (mkC t y) n2 (mkC t y).length hn2 rfl cu8_one cu8_len (A := A2) (B := A4) (cap := c2) (by kernel_rfl) (by kernel_rfl) (by kernel_rfl) (fun w' H => H.rdX (A := A4) (cap := c4) (E := 5) (size := 1) 2 rfl (by kernel_rfl)) (by unfold maxLen; omega) (by rw [by_u8]; omega) fun A3 c3 h3 => ?_
        refine Hs.run0 300 (fun _ => by kernel_rfl) ?_
        refine Hs.slot 12 (.c (.v (.int .i64 (i + 1 : Nat)))) rfl ((by kernel_rfl : _ = Value.int .i64 (IntKind.i64.wrap ((i : Int) + 1))).trans (wrap_nextJ hlen)) ?_
        refine Hs.loop (by kernel_rfl) ?_
        exact Hs.goto (loopAt Tryz.f23 0) [0, 1] [.b true 26 t.sc, .s A3 c3 (n2 + (mkC t y).length) 5 1 ((l2 ++ mkC t y).flatMap cu8)] [(2, .c (.p 0 0)), (5, .c (.v (.slice A3 (n2 + (mkC t y).length) c3))), (10, .c (.v (.slice (some ⟨ab, aoff, none⟩) b.length cap))), (11, .c (.v (.int .i64 b.length))), (12, .c (.v (.int .i64 (i + 1 : Nat))))] (by kernel_rfl) (by decide) (by kernel_rfl) (by kernel_rfl) (fun _ => (by kernel_rfl)) (fun u => ih (i + 1) (by omega) (by omega) b0 A3 c3 _ _ hl3.symm (by rw [List.length_append, hn2]) u)
      · have hm : mapC t x = [] := by unfold mapC; rw [if_neg (by rw [h]; decide)]
        rw [hm, List.append_nil] at hl3
        refine Hs.run0 300 (fun _ => by kernel_rfl) ?_
        refine Hs.slot 12 (.c (.v (.int .i64 (i + 1 : Nat)))) rfl ((by kernel_rfl : _ = Value.int .i64 (IntKind.i64.wrap ((i : Int) + 1))).trans (wrap_nextJ hlen)) ?_
        refine Hs.loop (by kernel_rfl) ?_
        exact Hs.goto (loopAt Tryz.f23 0) [0, 1] [.b true 26 t.sc, .s A2 c2 n2 5 1 (l2.flatMap cu8)] [(2, .c (.p 0 0)), (5, .c (.v (.slice A2 n2 c2))), (10, .c (.v (.slice (some ⟨ab, aoff, none⟩) b.length cap))), (11, .c (.v (.int .i64 b.length))), (12, .c (.v (.int .i64 (i + 1 : Nat))))] (by kernel_rfl) (by decide) (by kernel_rfl) (by kernel_rfl) (fun _ => (by kernel_rfl)) (fun u => ih (i + 1) (by omega) (by omega) b0 A2 c2 n2 l2 hl3.symm hn2 u)
  refine Hs.enter Tryz.func23 [] [] [] [.g t.sc, .c (.v (.slice A b.length cap))] (Mem.start0 w) (by kernel_rfl) (by kernel_rfl) ?_
  refine Hs.run1 300 (fun _ => by kernel_rfl) fun b0 => ?_
  refine Hs.nilS 5 1 (by kernel_rfl) ?_ (by kernel_rfl)
  refine Hs.loop (by kernel_rfl) ?_
  exact Hs.goto (loopAt Tryz.f23 0) [0, 1] [.b true 26 t.sc, .s none 0 0 5 1 (([] : List Int).flatMap cu8)] [(2, .c (.p 0 0)), (5, .c (.v (.slice none 0 0))), (10, .c (.v (.slice A b.length cap))), (11, .c (.v (.int .i64 b.length))), (12, .c (.v (.int .i64 (0 : Nat))))] (by kernel_rfl) (by decide) (by kernel_rfl) (by kernel_rfl) (fun _ => (by kernel_rfl)) (fun u => J b.length 0 (by omega) (by omega) b0 none 0 0 [] rfl rfl u)
/-- The setting that LdiscRaw types with. -/
def rawT (t : TM) : TM := { ((t.set 51 false).set 50 false).set 38 false with mn := 1, tm := 0 }
structure RawT (t : TM) : Prop where
  h51 : t.has 51 = false
  h50 : t.has 50 = false
  h38 : t.has 38 = false
  mn : t.mn = 1
  tm : t.tm = 0
theorem rawT_has (t : TM) : RawT (rawT t) := by
  have k : ∀ op, (rawT t).has op = (((t.set 51 false).set 50 false).set 38 false).has op := fun _ => rfl
  refine ⟨?_, ?_, ?_, rfl, rfl⟩ <;>
  · rw [k]
    repeat rw [set_has _ _ _ _ (by rfl)]
    rfl
/-- Bytes that wait to be read. -/
structure RawI (d : DM) (t : TM) (l : List Int) : Prop where
  t : d.t = t
  next : d.next = false
  raw : d.raw = l
  idle : d.idle = 0
theorem RawI.put {d : DM} {t : TM} {l b : List Int} (h : RawI d t l) : RawI (putD d b).1 t l := by
  unfold putD
  split
  · exact h
  · exact ⟨h.t, h.next, h.raw, h.idle⟩
theorem RawI.echo {d : DM} {t : TM} {l b : List Int} (h : RawI d t l) : RawI (echoD d b) t l := by
  unfold echoD
  split
  · have h1 : RawI (putD d (postC d.t (withinC d.col) b).2).1 t l := h.put
    unfold showD
    split
    · exact ⟨h1.t, h1.next, h1.raw, h1.idle⟩
    · exact h1
  · exact h
theorem RawI.marks {d : DM} {t : TM} {l : List Int} (h : RawI d t l) : RawI (marksD d) t l := RawI.put (d := { d with held := _ }) ⟨h.t, h.next, h.raw, h.idle⟩
theorem raw_step {d : DM} {t : TM} {l : List Int} {c : Int} (ht : RawT t) (h : RawI d t (mapL t l)) (hl : l.length < 500) : (inputD d c).2 = [] ∧ RawI (inputD d c).1 t (mapL t (l ++ [c])) := by
  obtain ⟨hd, hn, hr, hi⟩ := h
  subst hd
  have hu : typedU d.t (stripC d.t c) = false := by unfold typedU; rw [ht.h38]; rfl
  have hf : typedF d.t d.st (stripC d.t c) = d.st := by unfold typedF; rw [ht.h38]; rfl
  have hg : sigN d (stripC d.t c) = 0 := by unfold sigN; rw [ht.h50]; rfl
  have hle := mapL_le d.t l
  unfold inputD
  rw [hn, hu, hf, hg, ht.h51]
  simp only [Bool.false_eq_true, if_false, Int.lt_irrefl, gt_iff_lt]
  rw [mapL_snoc]
  unfold mapC
  by_cases he : endsOk d.t (stripC d.t c) = true
  · rw [he]
    simp only [Bool.not_true, Bool.false_eq_true, if_false, if_true]
    refine ⟨trivial, RawI.marks ?_⟩
    generalize endsC d.t (stripC d.t c) = y
    have hm := mk_le d.t y
    show RawI (takeD { d with idle := 0, next := false } y (mkC d.t y)) d.t (mapL d.t l ++ mkC d.t y)
    unfold takeD
    rw [if_neg (show ¬ d.t.has 51 = true by rw [ht.h51]; decide)]
    unfold takeR
    rw [if_neg (show ¬ d.raw.length + (mkC d.t y).length > 1024 by rw [hr]; omega)]
    exact RawI.echo ⟨rfl, rfl, by show d.raw ++ _ = _; rw [hr], rfl⟩
  · have he : endsOk d.t (stripC d.t c) = false := by simpa using he
    rw [he]
    simp only [Bool.not_false, Bool.false_eq_true, if_false, if_true, List.append_nil]
    exact ⟨trivial, RawI.marks ⟨rfl, rfl, hr, rfl⟩⟩
theorem raw_read {d : DM} {t : TM} {l : List Int} {k : Nat} (ht : RawT t) (h : RawI d t l) (hk : 0 < k) (hl : 0 < l.length) : (readD d k 0).2.1 = l.take (min k l.length) ∧ (readD d k 0).2.2 = true ∧ RawI (readD d k 0).1 t (l.drop (min k l.length)) := by
  obtain ⟨hd, hn, hr, hi⟩ := h
  subst hd; subst hr
  have h1 : L6 1 0 (d.raw.length : Int) k d.idle 0 = 0 := by
    unfold L6 leftV mx
    repeat' split
    all_goals first | omega | rfl | skip
    all_goals (exfalso; omega)
  have hok : rdOk d k 0 = true := by
    unfold rdOk rdB
    rw [ht.mn, ht.tm, h1]
    rfl
  have hK : rdK d k 0 = min k d.raw.length := by
    unfold rdK rdN mn mx
    rw [ht.mn, ht.tm, h1]
    simp only [if_true]
    omega
  unfold readD
  rw [ht.h51, hok, hK]
  exact ⟨rfl, rfl, RawI.marks ⟨rfl, hn, rfl, hi⟩⟩
theorem raw_none {d : DM} {t : TM} {k : Nat} (ht : RawT t) (h : RawI d t []) (hk : 0 < k) : readD d k 0 = (d, [], false) := by
  obtain ⟨hd, hn, hr, hi⟩ := h
  subst hd
  have h1 : L6 1 0 (d.raw.length : Int) k d.idle 0 = -1 := by
    rw [hr]
    unfold L6 leftV mx
    simp only [List.length_nil]
    repeat' split
    all_goals first | omega | rfl | skip
    all_goals (exfalso; omega)
  have hok : rdOk d k 0 = false := by
    unfold rdOk rdB
    rw [ht.mn, ht.tm, h1]
    rfl
  unfold readD
  rw [ht.h51, hok]
  rfl
end Go.Proofs.YtjphcdphlmaopaaGreat
