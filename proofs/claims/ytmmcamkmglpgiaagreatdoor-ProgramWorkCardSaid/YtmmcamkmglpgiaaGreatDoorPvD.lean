/- Layer 19: what is wrong with a program; for all programs; no condition but lengths · Layer 19: what is wrong with programs; for all programs; no condition but lengths · Layer 19: what a line makes of programs, in plain words; the library's functions that Parse calls; no condition but lengths · Layer 19: a round of Parse: what a line does to the programs in memory; for all texts that are not too long; no other condition · Layer 19: a round of Parse, walked; for all lines that are not too long; no other condition · Layer 19: Parse; for all texts; no condition · Layer 19: Parse; for all texts; no condition · Layer 19: how many operations a run makes (the closure that calls itself); for all programs whose calls go forward; no other condition. -/
import Derived.Shelf.Strings.SlTrimAscii
import Derived.Test.YtmmcamkmglpgiaaGreatDoorPvA
import Derived.Test.YtmmcamkmglpgiaaGreatDoorPvC
import Derived.Test.YtmmcamkmglpgiaaGreatDoorEngL
import Derived.Test.YtmmcamkmglpgiaaGreatDoorPvB
import Derived.Test.YtmmcamkmglpgiaaGreatDoorEngY
import Derived.Laws.Small
import Derived.Test.YtmmcamkmglpgiaaGreatDoorEngAO
namespace Go.Proofs.YtmmcamkmglpgiaaGreatDoor
open Go.RowKit Go.Shelf
set_option linter.all false
set_option maxRecDepth 100000
theorem right_any (o : OP9) (p q : Int) (w : World) : Calls Tryz.prog 41 #[opA o, .int .i64 p, .int .i64 q] w (RetB (rightB o p q) w) := by
  cases h : withinB o.k 1 16 with
  | false =>
    have e : rightB o p q = false := by unfold rightB; rw [h]; rfl
    rw [e]
    exact right_out o p q h w
  | true =>
    have e : rightB o p q = restB o.k.toNat p q o := by unfold rightB; rw [h]; rfl
    rw [e]
    obtain ⟨k, a, b, t⟩ := o
    have h2 : 1 ≤ k ∧ k ≤ 16 := by simpa [withinB] using h
    obtain ⟨n, rfl⟩ : ∃ n : Nat, k = n := ⟨k.toNat, by omega⟩
    have h3 : n = 1 ∨ n = 2 ∨ n = 3 ∨ n = 4 ∨ n = 5 ∨ n = 6 ∨ n = 7 ∨ n = 8 ∨ n = 9 ∨ n = 10 ∨ n = 11 ∨ n = 12 ∨ n = 13 ∨ n = 14 ∨ n = 15 ∨ n = 16 := by omega
    rcases h3 with rfl | rfl | rfl | rfl | rfl | rfl | rfl | rfl | rfl | rfl | rfl | rfl | rfl | rfl | rfl | rfl
    · exact right_1 a b t p q w
    · exact right_2 a b t p q w
    · exact right_3 a b t p q w
    · exact right_4 a b t p q w
    · exact right_5 a b t p q w
    · exact right_6 a b t p q w
    · exact right_7 a b t p q w
    · exact right_8 a b t p q w
    · exact right_9 a b t p q w
    · exact right_10 a b t p q w
    · exact right_11 a b t p q w
    · exact right_12 a b t p q w
    · exact right_13 a b t p q w
    · exact right_14 a b t p q w
    · exact right_15 a b t p q w
    · exact right_16 a b t p q w
theorem wrong1_any (o : OP9) (p q : Int) (c : Nat) (w : World) (hc : Blk w c 57 [.int .i64 p, .int .i64 q]) : Calls Tryz.prog 40 #[opA o, .pointer (some ⟨c, 0, none⟩)] w (RetB (!rightB o p q) w) := by
  have H0 : Mem w [] [c] [.b false 57 [.v (.int .i64 p), .v (.int .i64 q)]] w := Mem.startW [] rfl (by simp [bks, HB.blk]) ⟨hc, trivial⟩ (fun y hy => by simp [wrN, HB.wr] at hy)
  refine Hs.enter Tryz.func40 [] [c] _ [.g o.sc, .c (.p 0 0)] H0 (by kernel_rfl) (by kernel_rfl) ?_
  refine Hs.run1 300 (fun _ => by kernel_rfl) fun b1 => ?_
  refine Hs.callV (v := .bool (rightB o p q)) (fun w' H => right_any o p q w') (by kernel_rfl) ?_
  refine Hs.run0 300 (fun _ => by kernel_rfl) ?_
  exact Hs.ret (v := .bool (!rightB o p q)) Tryz.func40 (by kernel_rfl) fun w' H => ⟨rfl, H.only⟩
def ixG (f : OP9 → Bool) : List OP9 → Nat → Int
  | [], _ => -1
  | o :: l, i => match f o with
    | true => (i : Int)
    | false => ixG f l (i + 1)
theorem ixG_cons (f : OP9 → Bool) (o : OP9) (l : List OP9) (i : Nat) : ixG f (o :: l) i = match f o with
    | true => (i : Int)
    | false => ixG f l (i + 1) := rfl
theorem ixG_any (f : OP9 → Bool) : ∀ (l : List OP9) (i : Nat), decide (0 ≤ ixG f l i) = l.any f
  | [], i => rfl
  | o :: l, i => by
    unfold ixG
    rw [List.any_cons]
    cases h : f o with
    | true => exact decide_eq_true (Int.natCast_nonneg i)
    | false => exact ixG_any f l (i + 1)
set_option maxHeartbeats 1000000 in
theorem ixOp_any (p q : Int) (l : List OP9) (A : Option Addr) (cap : Nat) (c : Nat) (w : World) (hrd : RdX cOP w A l) (hm : l.length ≤ maxLen) (hc : Blk w c 57 [.int .i64 p, .int .i64 q]) : Calls Tryz.prog 63 #[.slice A l.length cap, .func (.func 40) #[] #[.pointer (some ⟨c, 0, none⟩)]] w fun e w' => e = .returned (.int .i64 (ixG (fun o => !rightB o p q) l 0)) ∧ Only [] w w' := by
  have J : ∀ (d i : Nat), l.length - i = d → i ≤ l.length → ixG (fun o => !rightB o p q) (l.drop i) i = ixG (fun o => !rightB o p q) l 0 → ∀ (u : Nat → Value), Hs Tryz.prog 63 (fun e w' => e = .returned (.int .i64 (ixG (fun o => !rightB o p q) l 0)) ∧ Only [] w w') (Tryz.f63).ntmps w [] [] ⟨.no, loopAt Tryz.f63 0, pins [(0, .c (.v (.slice A l.length cap))), (1, .c (.v (.func (.func 40) #[] #[.pointer (some ⟨c, 0, none⟩)]))), (4, .c (.v (.int .i64 0))), (7, .c (.v (.int .i64 l.length))), (8, .c (.v (.int .i64 i)))] (.vals u), []⟩ := by
    intro d
    induction d with
    | zero =>
      intro i hd hi hix u
      obtain rfl : i = l.length := by omega
      rw [List.drop_length] at hix
      have e : ixG (fun o => !rightB o p q) l 0 = -1 := hix.symm
      refine Hs.run0 300 (fun _ => by kernel_rfl) ?_
      refine Hs.condP ((l.length : Int) < (l.length : Int)) (by kernel_rfl) (fun h => by omega) (fun _ => ?_)
      refine Hs.run0 300 (fun _ => by kernel_rfl) ?_
      exact Hs.ret (v := .int .i64 (-1)) Tryz.func63 (by kernel_rfl) fun w' H => ⟨by rw [e], H.only⟩
    | succ d ih =>
      intro i hd hi hix u
      have hil : i < l.length := by omega
      obtain ⟨r, hr⟩ : ∃ r, l[i]? = some r := ⟨_, List.getElem?_eq_getElem hil⟩
      have hdr : l.drop i = r :: l.drop (i + 1) := by
        rw [List.drop_eq_getElem_cons hil]
        rw [List.getElem?_eq_getElem hil] at hr
        injection hr with hr
        rw [hr]
      rw [hdr, ixG_cons] at hix
      obtain ⟨ab, aoff, hA, _, _⟩ := hrd (by omega)
      have hih := fun hix u => ih (i + 1) (by omega) (by omega) hix u
      clear ih
      have hrd := hrd
      rw [hA] at hih hrd ⊢
      refine Hs.run0 300 (fun _ => by kernel_rfl) ?_
      refine Hs.condP ((i : Int) < (l.length : Int)) (by kernel_rfl) (fun _ => ?_) (fun h => by omega)
      refine Hs.run0 300 (fun _ => by kernel_rfl) ?_
      refine Hs.idx (b := ab) (off := aoff) (len := l.length) (c := cap) (i := i) elemPo hil (by kernel_rfl) ?_
      refine Hs.ldx (cf := cOP) (size := 4) (E := 36) (b := ab) (off := aoff) (i := i) (l := l) (x := r) cOP_len (.g r.sc) (by kernel_rfl) (fun w' H => hrd.only H.only) hr (by kernel_rfl) (by kernel_rfl) rfl (by kernel_rfl) ?_
      refine Hs.callV (v := .bool (!rightB r p q)) (fun w' H => wrong1_any r p q c w' (hc.only H.only (by simp))) (by kernel_rfl) ?_
      refine Hs.run0 300 (fun _ => by kernel_rfl) ?_
      refine Hs.cond (!rightB r p q) (by kernel_rfl) (fun h => ?_) (fun h => ?_)
      · rw [h] at hix
        refine Hs.run0 300 (fun _ => by kernel_rfl) ?_
        exact Hs.ret (v := .int .i64 i) Tryz.func63 (by kernel_rfl) fun w' H => ⟨by rw [← hix], H.only⟩
      · rw [h] at hix
        refine Hs.run0 300 (fun _ => by kernel_rfl) ?_
        refine Hs.slot 8 (.c (.v (.int .i64 (i + 1 : Nat)))) rfl ((by kernel_rfl : _ = Value.int .i64 (IntKind.i64.wrap ((i : Int) + 1))).trans (wrap_nextJ hm)) ?_
        refine Hs.loop (by kernel_rfl) ?_
        exact Hs.goto (loopAt Tryz.f63 0) [] [] [(0, .c (.v (.slice (some ⟨ab, aoff, none⟩) l.length cap))), (1, .c (.v (.func (.func 40) #[] #[.pointer (some ⟨c, 0, none⟩)]))), (4, .c (.v (.int .i64 0))), (7, .c (.v (.int .i64 l.length))), (8, .c (.v (.int .i64 (i + 1 : Nat))))] (by kernel_rfl) (by decide) (by kernel_rfl) (by kernel_rfl) (fun _ => (by kernel_rfl)) (fun u => hih hix u)
  refine Hs.enter Tryz.func63 [] [] [] [.c (.v (.slice A l.length cap)), .c (.v (.func (.func 40) #[] #[.pointer (some ⟨c, 0, none⟩)]))] (Mem.start0 w) (by kernel_rfl) (by kernel_rfl) ?_
  refine Hs.run0 300 (fun _ => by kernel_rfl) ?_
  refine Hs.loop (by kernel_rfl) ?_
  exact Hs.goto (loopAt Tryz.f63 0) [] [] [(0, .c (.v (.slice A l.length cap))), (1, .c (.v (.func (.func 40) #[] #[.pointer (some ⟨c, 0, none⟩)]))), (4, .c (.v (.int .i64 0))), (7, .c (.v (.int .i64 l.length))), (8, .c (.v (.int .i64 (0 : Nat))))] (by kernel_rfl) (by decide) (by kernel_rfl) (by kernel_rfl) (fun _ => (by kernel_rfl)) (fun u => J l.length 0 (by omega) (by omega) (by rw [List.drop_zero]) u)
theorem coOp_any (p q : Int) (l : List OP9) (A : Option Addr) (cap : Nat) (c : Nat) (w : World) (hrd : RdX cOP w A l) (hm : l.length ≤ maxLen) (hc : Blk w c 57 [.int .i64 p, .int .i64 q]) : Calls Tryz.prog 39 #[.slice A l.length cap, .func (.func 40) #[] #[.pointer (some ⟨c, 0, none⟩)]] w (RetB (l.any fun o => !rightB o p q) w) := by
  refine Hs.enter Tryz.func39 [] [] [] [.c (.v (.slice A l.length cap)), .c (.v (.func (.func 40) #[] #[.pointer (some ⟨c, 0, none⟩)]))] (Mem.start0 w) (by kernel_rfl) (by kernel_rfl) ?_
  refine Hs.run0 300 (fun _ => by kernel_rfl) ?_
  refine Hs.callV (v := .int .i64 (ixG (fun o => !rightB o p q) l 0)) (fun w' H => ixOp_any p q l A cap c w' (hrd.only H.only) hm (hc.only H.only (by simp))) (by kernel_rfl) ?_
  refine Hs.run0 300 (fun _ => by kernel_rfl) ?_
  exact Hs.ret (v := .bool (decide (0 ≤ ixG (fun o => !rightB o p q) l 0))) Tryz.func39 (by kernel_rfl) fun w' H => ⟨by rw [ixG_any], H.only⟩
def alnumL : List UInt8 := [97, 98, 99, 100, 101, 102, 103, 104, 105, 106, 107, 108, 109, 110, 111, 112, 113, 114, 115, 116, 117, 118, 119, 120, 121, 122, 48, 49, 50, 51, 52, 53, 54, 55, 56, 57]
def nmB (t : ByteArray) : Bool := textE t && (decide ((t.size : Int) ≤ 64) && (strL (Lib.trimS t.data.toList alnumL)).toList == (⟨#[]⟩ : ByteArray).toList)
theorem trim_any (t : ByteArray) (ht : (t.size : Int) ≤ 64) (w : World) : Calls Tryz.prog 62 #[.string t, .string (strL alnumL)] w fun e w' => e = .returned (.string (strL (Lib.trimS t.data.toList alnumL))) ∧ Only [] w w' := by
  have h : (t.size : Int) ≤ 64 := ht
  refine (Any.strings_Trim_laid Tryz.lays160 (by kernel_rfl) t (strL alnumL) w (by omega) (by decide) (ascii_of_all (by decide))).mono ?_
  rintro e w' ⟨rfl, hb⟩
  exact ⟨rfl, only_of_below hb⟩
theorem named_any (t : ByteArray) (w : World) : Calls Tryz.prog 38 #[.string t] w (RetB (nmB t) w) := by
  refine Hs.enter Tryz.func38 [] [] [] [.c (.v (.string t))] (Mem.start0 w) (by kernel_rfl) (by kernel_rfl) ?_
  refine Hs.run0 300 (fun _ => by kernel_rfl) ?_
  refine Hs.bool 5 (textE t) (by kernel_rfl) (fun h => ?_) (fun h => ?_)
  · refine Hs.rung0 [2] 300 (fun _ => by kernel_rfl) ?_
    refine Hs.bool 10 (decide ((t.size : Int) ≤ 64)) (by kernel_rfl) (fun h2 => ?_) (fun h2 => ?_)
    · refine Hs.rung0 [2, 7] 300 (fun _ => by kernel_rfl) ?_
      refine Hs.callV (v := .string (strL (Lib.trimS t.data.toList alnumL))) (fun w' H => trim_any t (of_decide_eq_true h2) w') (by kernel_rfl) ?_
      refine Hs.rung0 [2, 7] 300 (fun _ => by kernel_rfl) ?_
      exact Hs.ret (v := .bool ((strL (Lib.trimS t.data.toList alnumL)).toList == (⟨#[]⟩ : ByteArray).toList)) Tryz.func38 (by kernel_rfl) fun w' H => ⟨by unfold nmB; rw [h, h2]; rfl, H.only⟩
    · refine Hs.rung0 [2, 7] 300 (fun _ => by kernel_rfl) ?_
      exact Hs.ret (v := .bool false) Tryz.func38 (by kernel_rfl) fun w' H => ⟨by unfold nmB; rw [h, h2]; rfl, H.only⟩
  · refine Hs.rung0 [2, 7] 300 (fun _ => by kernel_rfl) ?_
    exact Hs.ret (v := .bool false) Tryz.func38 (by kernel_rfl) fun w' H => ⟨by unfold nmB; rw [h]; rfl, H.only⟩
end Go.Proofs.YtmmcamkmglpgiaaGreatDoor

namespace Go.Proofs.YtmmcamkmglpgiaaGreatDoor
open Go.RowKit Go.MapKept
set_option linter.all false
set_option maxRecDepth 100000
instance decBA : DecidableEq ByteArray := fun a b => decidable_of_iff (a.data.toList = b.data.toList) ⟨fun h => by
  cases a with | mk x => cases b with | mk y => exact congrArg ByteArray.mk (Array.toList_inj.1 h), fun h => by rw [h]⟩
abbrev PM := ByteArray × List OP9
def badOps (ops : List OP9) (p q : Int) : Bool := ops.any fun o => !rightB o p q
def wrongM (m : PM) (p q : Int) : Int := match nmB m.1 with
  | false => 4
  | true => if (64 : Int) < m.2.length then 6 else match badOps m.2 p q with
    | true => 2
    | false => 0
theorem wrong_any (x : PG) (p q : Int) (w : World) (hx : PgOk w x) : Calls Tryz.prog 19 #[.agg (cPG x).toArray, plV p q] w fun e w' => e = .returned (.int .i64 (wrongM x.m p q)) ∧ Only [] w w' := by
  have hco : ∀ b0 b1 w', Mem w [] ([] ++ [b0, b1]) [.b true 33 [.v (.string x.n), .v (.slice x.A x.ops.length x.c)], .b true 57 [.v (.int .i64 p), .v (.int .i64 q)]] w' → Calls Tryz.prog 39 #[.slice x.A x.ops.length x.c, .func (.func 40) #[] #[.pointer (some ⟨b1, 0, none⟩)]] w' (RetB (badOps x.ops p q) w') := fun b0 b1 w' H => coOp_any p q x.ops x.A x.c b1 w' (hx.1.only H.only) (Nat.le_trans hx.2.1 hx.2.2) (H.at 1 rfl)
  have hW : wrongM x.m p q = (match nmB x.n with
    | false => 4
    | true => if (64 : Int) < x.ops.length then 6 else match badOps x.ops p q with
      | true => 2
      | false => 0) := rfl
  rw [hW]
  refine Hs.enter Tryz.func19 [] [] [] [.g x.sc, .g [.v (.int .i64 p), .v (.int .i64 q)]] (Mem.start0 w) (by kernel_rfl) (by kernel_rfl) ?_
  refine Hs.run2 300 (fun _ => by kernel_rfl) fun b0 b1 => ?_
  refine Hs.callV (v := .bool (nmB x.n)) (fun w' H => named_any _ w') (by kernel_rfl) ?_
  refine Hs.run0 300 (fun _ => by kernel_rfl) ?_
  refine Hs.cond (!nmB x.n) (by kernel_rfl) (fun h => ?_) (fun h => ?_)
  · refine Hs.run0 300 (fun _ => by kernel_rfl) ?_
    exact Hs.ret (v := .int .i64 4) Tryz.func19 (by kernel_rfl) fun w' H => ⟨by rw [show nmB x.n = false by simpa using h], H.only⟩
  · refine Hs.run0 300 (fun _ => by kernel_rfl) ?_
    refine Hs.condP ((64 : Int) < (x.ops.length : Int)) (by kernel_rfl) (fun h2 => ?_) (fun h2 => ?_)
    · refine Hs.run0 300 (fun _ => by kernel_rfl) ?_
      exact Hs.ret (v := .int .i64 6) Tryz.func19 (by kernel_rfl) fun w' H => ⟨by rw [show nmB x.n = true by simpa using h]; dsimp only; rw [if_pos h2], H.only⟩
    · refine Hs.run0 300 (fun _ => by kernel_rfl) ?_
      refine Hs.callV (v := .bool (badOps x.ops p q)) (fun w' H => hco b0 b1 w' (Eq.mp (by kernel_rfl) H)) (by kernel_rfl) ?_
      refine Hs.run0 300 (fun _ => by kernel_rfl) ?_
      refine Hs.cond (badOps x.ops p q) (by kernel_rfl) (fun h3 => ?_) (fun h3 => ?_)
      · refine Hs.run0 300 (fun _ => by kernel_rfl) ?_
        exact Hs.ret (v := .int .i64 2) Tryz.func19 (by kernel_rfl) fun w' H => ⟨by rw [show nmB x.n = true by simpa using h]; dsimp only; rw [if_neg h2, h3], H.only⟩
      · refine Hs.run0 300 (fun _ => by kernel_rfl) ?_
        exact Hs.ret (v := .int .i64 0) Tryz.func19 (by kernel_rfl) fun w' H => ⟨by rw [show nmB x.n = true by simpa using h]; dsimp only; rw [if_neg h2, h3], H.only⟩
def kS (s : ByteArray) : Value := .string s
theorem kS_inj (a b : ByteArray) (h : kS a = kS b) : a = b := by injection h
theorem keyN : KeyT Tryz.prog 58 9 4 (.bool false) kS := ⟨(by kernel_rfl), fun w => by kernel_rfl, ⟨.string, by kernel_rfl, fun _ => trivial⟩, kS_inj⟩
def seenE (l : List ByteArray) : List (ByteArray × Value) := l.map fun n => (n, .bool true)
def hasN (n : ByteArray) (l : List ByteArray) : Bool := l.any fun a => decide (a = n)
theorem seen_look (n : ByteArray) : ∀ l : List ByteArray, lookM n (seenE l) = if hasN n l = true then some (Value.bool true) else none
  | [] => rfl
  | a :: l => by
    have e : hasN n (a :: l) = (decide (a = n) || hasN n l) := rfl
    have e2 : lookM n (seenE (a :: l)) = if a = n then some (Value.bool true) else lookM n (seenE l) := rfl
    rw [e, e2]
    by_cases h : a = n
    · rw [if_pos h, decide_eq_true h]
      rfl
    · rw [if_neg h, decide_eq_false h, Bool.false_or]
      exact seen_look n l
def dupM (seen : List ByteArray) : List ByteArray → Int
  | [] => 0
  | n :: l => if hasN n seen = true then 4 else dupM (seen ++ [n]) l
def wrongs (q : Int) : List PM → Nat → Int
  | [], _ => 0
  | m :: l, i => if wrongM m i q = 0 then wrongs q l (i + 1) else wrongM m i q
theorem wrongs_cons (q : Int) (m : PM) (l : List PM) (i : Nat) : wrongs q (m :: l) i = if wrongM m i q = 0 then wrongs q l (i + 1) else wrongM m i q := rfl
theorem dupM_cons (seen : List ByteArray) (n : ByteArray) (l : List ByteArray) : dupM seen (n :: l) = if hasN n seen = true then 4 else dupM (seen ++ [n]) l := rfl
/-- What is wrong with programs. -/
def checkM (l : List PM) : Int := match withinB (l.length : Int) 1 32 with
  | false => 5
  | true => if wrongs l.length l 0 = 0 then dupM [] (l.map Prod.fst) else wrongs l.length l 0
abbrev CkR (ps : List PG) (w : World) : Ending → World → Prop := fun e w' => e = .returned (.int .i64 (checkM (ps.map PG.m))) ∧ Only [] w w'
set_option maxHeartbeats 4000000 in
theorem check_any (ps : List PG) (A : Option Addr) (c : Nat) (w : World) (h : Pgs w A c ps) : Calls Tryz.prog 9 #[.slice A ps.length c] w (CkR ps w) := by
  have hlen : ps.length ≤ maxLen := Nat.le_trans h.le h.max
  have hwe : ∀ b, withinB (ps.length : Int) 1 32 = b → checkM (ps.map PG.m) = (match b with
    | false => 5
    | true => if wrongs ps.length (ps.map PG.m) 0 = 0 then dupM [] (ps.map PG.n) else wrongs ps.length (ps.map PG.m) 0) := by
    intro b hb
    unfold checkM
    rw [List.length_map, hb, List.map_map]
    rfl
  have J2 : ∀ (d i : Nat), ps.length - i = d → i ≤ ps.length → checkM (ps.map PG.m) = dupM ((ps.take i).map PG.n) ((ps.drop i).map PG.n) → ∀ (r : Nat) (u : Nat → Value), Hs Tryz.prog 9 (CkR ps w) (Tryz.f9).ntmps w [] [r] ⟨.no, loopAt Tryz.f9 1, pins [(6, .c (.v (.map (some r)))), (31, .c (.v (.slice A ps.length c))), (32, .c (.v (.int .i64 ps.length))), (33, .c (.v (.int .i64 i)))] (.vals u), [HB.mp kS r (seenE ((ps.take i).map PG.n))]⟩ := by
    intro d
    induction d with
    | zero =>
      intro i hd hi hix r u
      obtain rfl : i = ps.length := by omega
      rw [List.drop_length] at hix
      have e : checkM (ps.map PG.m) = 0 := hix
      refine Hs.run0 300 (fun _ => by kernel_rfl) ?_
      refine Hs.condP ((ps.length : Int) < (ps.length : Int)) (by kernel_rfl) (fun h => by omega) (fun _ => ?_)
      refine Hs.run0 300 (fun _ => by kernel_rfl) ?_
      exact Hs.ret (v := .int .i64 0) Tryz.func9 (by kernel_rfl) fun w' H => ⟨by rw [e], H.only⟩
    | succ d ih =>
      intro i hd hi hix r u
      have hil : i < ps.length := by omega
      obtain ⟨x, hx⟩ : ∃ x, ps[i]? = some x := ⟨_, List.getElem?_eq_getElem hil⟩
      have hdr : ps.drop i = x :: ps.drop (i + 1) := by
        rw [List.drop_eq_getElem_cons hil]
        rw [List.getElem?_eq_getElem hil] at hx
        injection hx with hx
        rw [hx]
      have htk : (ps.take (i + 1)).map PG.n = (ps.take i).map PG.n ++ [x.n] := by rw [List.take_add_one, hx, List.map_append]; rfl
      rw [hdr, List.map_cons, dupM_cons] at hix
      obtain ⟨ab, aoff, hA, _, _⟩ := h.rd (by omega)
      have hih := fun hix r u => ih (i + 1) (by omega) (by omega) hix r u
      clear ih
      have hrd := h.rd
      rw [hA] at hih hrd ⊢
      refine Hs.run0 300 (fun _ => by kernel_rfl) ?_
      refine Hs.condP ((i : Int) < (ps.length : Int)) (by kernel_rfl) (fun _ => ?_) (fun h => by omega)
      refine Hs.run0 300 (fun _ => by kernel_rfl) ?_
      refine Hs.idx (b := ab) (off := aoff) (len := ps.length) (c := c) (i := i) elemPr hil (by kernel_rfl) ?_
      refine Hs.ldx (cf := cPG) (size := 2) (E := 33) (b := ab) (off := aoff) (i := i) (l := ps) (x := x) cPG_len (.g x.sc) (by kernel_rfl) (fun w' H => hrd.only H.only) hx (by kernel_rfl) (by kernel_rfl) rfl (by kernel_rfl) ?_
      refine Hs.run1 300 (fun _ => by kernel_rfl) fun b1 => ?_
      by_cases hn : hasN x.n ((ps.take i).map PG.n) = true
      · rw [if_pos hn] at hix
        refine Hs.getM (r := r) (es := seenE ((ps.take i).map PG.n)) keyN x.n false (.bool true) (by rw [seen_look, if_pos hn]; rfl) (by kernel_rfl) (fun w' H => H.mapM 0 (by kernel_rfl)) ?_
        refine Hs.run0 300 (fun _ => by kernel_rfl) ?_
        refine Hs.condT (by kernel_rfl) ?_
        refine Hs.run0 300 (fun _ => by kernel_rfl) ?_
        exact Hs.ret (v := .int .i64 4) Tryz.func9 (by kernel_rfl) fun w' H => ⟨by rw [hix], H.only⟩
      · rw [if_neg hn] at hix
        refine Hs.getM (r := r) (es := seenE ((ps.take i).map PG.n)) keyN x.n false (.bool false) (by rw [seen_look, if_neg hn]; rfl) (by kernel_rfl) (fun w' H => H.mapM 0 (by kernel_rfl)) ?_
        refine Hs.run0 300 (fun _ => by kernel_rfl) ?_
        refine Hs.condF (by kernel_rfl) ?_
        refine Hs.run0 300 (fun _ => by kernel_rfl) ?_
        refine Hs.putM 0 keyN x.n (.bool true) (es := seenE ((ps.take i).map PG.n)) (r := r) (by rw [seen_look, if_neg hn]) (by kernel_rfl) (by kernel_rfl) (by kernel_rfl) ?_
        have hes : seenE ((ps.take i).map PG.n) ++ [(x.n, .bool true)] = seenE ((ps.take (i + 1)).map PG.n) := by rw [htk]; unfold seenE; rw [List.map_append]; rfl
        rw [hes]
        refine Hs.run0 300 (fun _ => by kernel_rfl) ?_
        refine Hs.slot 33 (.c (.v (.int .i64 (i + 1 : Nat)))) rfl ((by kernel_rfl : _ = Value.int .i64 (IntKind.i64.wrap ((i : Int) + 1))).trans (wrap_nextJ hlen)) ?_
        refine Hs.loop (by kernel_rfl) ?_
        exact Hs.goto (loopAt Tryz.f9 1) [0] [HB.mp kS r (seenE ((ps.take (i + 1)).map PG.n))] [(6, .c (.v (.map (some r)))), (31, .c (.v (.slice (some ⟨ab, aoff, none⟩) ps.length c))), (32, .c (.v (.int .i64 ps.length))), (33, .c (.v (.int .i64 (i + 1 : Nat))))] (by kernel_rfl) (by decide) (by kernel_rfl) (by kernel_rfl) (fun _ => (by kernel_rfl)) (fun u => hih (by rw [htk]; exact hix) r u)
  have J1 : withinB (ps.length : Int) 1 32 = true → ∀ (d i : Nat), ps.length - i = d → i ≤ ps.length → wrongs ps.length (ps.map PG.m) 0 = wrongs ps.length ((ps.drop i).map PG.m) i → ∀ (u : Nat → Value), Hs Tryz.prog 9 (CkR ps w) (Tryz.f9).ntmps w [] [] ⟨.no, loopAt Tryz.f9 0, pins [(0, .c (.v (.slice A ps.length c))), (13, .c (.v (.slice A ps.length c))), (14, .c (.v (.int .i64 ps.length))), (15, .c (.v (.int .i64 i)))] (.vals u), []⟩ := by
    intro hwi d
    induction d with
    | zero =>
      intro i hd hi hix u
      obtain rfl : i = ps.length := by omega
      rw [List.drop_length] at hix
      have e : wrongs ps.length (ps.map PG.m) 0 = 0 := hix
      have e2 := hwe true hwi
      dsimp only at e2
      rw [if_pos e] at e2
      refine Hs.run0 300 (fun _ => by kernel_rfl) ?_
      refine Hs.condP ((ps.length : Int) < (ps.length : Int)) (by kernel_rfl) (fun h => by omega) (fun _ => ?_)
      refine Hs.run0 300 (fun _ => by kernel_rfl) ?_
      refine Hs.mkM (T := 58) kS (by kernel_rfl) (by kernel_rfl) fun r => ?_
      refine Hs.run0 300 (fun _ => by kernel_rfl) ?_
      refine Hs.loop (by kernel_rfl) ?_
      exact Hs.goto (loopAt Tryz.f9 1) [0] [HB.mp kS r (seenE ((ps.take 0).map PG.n))] [(6, .c (.v (.map (some r)))), (31, .c (.v (.slice A ps.length c))), (32, .c (.v (.int .i64 ps.length))), (33, .c (.v (.int .i64 (0 : Nat))))] (by kernel_rfl) (by decide) (by kernel_rfl) (by kernel_rfl) (fun _ => (by kernel_rfl)) (fun u => J2 ps.length 0 (by omega) (by omega) (by rw [e2]; rfl) r u)
    | succ d ih =>
      intro i hd hi hix u
      have hil : i < ps.length := by omega
      obtain ⟨x, hx⟩ : ∃ x, ps[i]? = some x := ⟨_, List.getElem?_eq_getElem hil⟩
      have hxm : x ∈ ps := List.mem_of_getElem? hx
      have hxo := h.all x hxm
      have hdr : ps.drop i = x :: ps.drop (i + 1) := by
        rw [List.drop_eq_getElem_cons hil]
        rw [List.getElem?_eq_getElem hil] at hx
        injection hx with hx
        rw [hx]
      rw [hdr, List.map_cons, wrongs_cons] at hix
      obtain ⟨ab, aoff, hA, _, _⟩ := h.rd (by omega)
      have hih := fun hix u => ih (i + 1) (by omega) (by omega) hix u
      clear ih
      have hrd := h.rd
      rw [hA] at hih hrd ⊢
      refine Hs.run0 300 (fun _ => by kernel_rfl) ?_
      refine Hs.condP ((i : Int) < (ps.length : Int)) (by kernel_rfl) (fun _ => ?_) (fun h => by omega)
      refine Hs.run0 300 (fun _ => by kernel_rfl) ?_
      refine Hs.idx (b := ab) (off := aoff) (len := ps.length) (c := c) (i := i) elemPr hil (by kernel_rfl) ?_
      refine Hs.ldx (cf := cPG) (size := 2) (E := 33) (b := ab) (off := aoff) (i := i) (l := ps) (x := x) cPG_len (.g x.sc) (by kernel_rfl) (fun w' H => hrd.only H.only) hx (by kernel_rfl) (by kernel_rfl) rfl (by kernel_rfl) ?_
      refine Hs.run1 300 (fun _ => by kernel_rfl) fun b1 => ?_
      refine Hs.callV (v := .int .i64 (wrongM x.m i ps.length)) (fun w' H => wrong_any x i ps.length w' (hxo.only H.only)) (by kernel_rfl) ?_
      refine Hs.run0 300 (fun _ => by kernel_rfl) ?_
      refine Hs.cond (!decide (wrongM x.m i ps.length = 0)) (by kernel_rfl) (fun h1 => ?_) (fun h1 => ?_)
      · have h1 : ¬ wrongM x.m i ps.length = 0 := by simpa using h1
        rw [if_neg h1] at hix
        have e2 := hwe true hwi
        dsimp only at e2
        rw [hix, if_neg h1] at e2
        refine Hs.run0 300 (fun _ => by kernel_rfl) ?_
        exact Hs.ret (v := .int .i64 (wrongM x.m i ps.length)) Tryz.func9 (by kernel_rfl) fun w' H => ⟨by rw [e2], H.only⟩
      · have h1 : wrongM x.m i ps.length = 0 := by simpa using h1
        rw [if_pos h1] at hix
        refine Hs.run0 300 (fun _ => by kernel_rfl) ?_
        refine Hs.slot 15 (.c (.v (.int .i64 (i + 1 : Nat)))) rfl ((by kernel_rfl : _ = Value.int .i64 (IntKind.i64.wrap ((i : Int) + 1))).trans (wrap_nextJ hlen)) ?_
        refine Hs.loop (by kernel_rfl) ?_
        exact Hs.goto (loopAt Tryz.f9 0) [] [] [(0, .c (.v (.slice (some ⟨ab, aoff, none⟩) ps.length c))), (13, .c (.v (.slice (some ⟨ab, aoff, none⟩) ps.length c))), (14, .c (.v (.int .i64 ps.length))), (15, .c (.v (.int .i64 (i + 1 : Nat))))] (by kernel_rfl) (by decide) (by kernel_rfl) (by kernel_rfl) (fun _ => (by kernel_rfl)) (fun u => hih hix u)
  refine Hs.enter Tryz.func9 [] [] [] [.c (.v (.slice A ps.length c))] (Mem.start0 w) (by kernel_rfl) (by kernel_rfl) ?_
  refine Hs.run0 300 (fun _ => by kernel_rfl) ?_
  refine Hs.callV (v := .bool (withinB (ps.length : Int) 1 32)) (fun w' H => within_any _ _ _ w') (by kernel_rfl) ?_
  refine Hs.run0 300 (fun _ => by kernel_rfl) ?_
  refine Hs.cond (!withinB (ps.length : Int) 1 32) (by kernel_rfl) (fun h1 => ?_) (fun h1 => ?_)
  · have e2 := hwe false (by simpa using h1)
    refine Hs.run0 300 (fun _ => by kernel_rfl) ?_
    exact Hs.ret (v := .int .i64 5) Tryz.func9 (by kernel_rfl) fun w' H => ⟨by rw [e2], H.only⟩
  · refine Hs.run0 300 (fun _ => by kernel_rfl) ?_
    refine Hs.loop (by kernel_rfl) ?_
    exact Hs.goto (loopAt Tryz.f9 0) [] [] [(0, .c (.v (.slice A ps.length c))), (13, .c (.v (.slice A ps.length c))), (14, .c (.v (.int .i64 ps.length))), (15, .c (.v (.int .i64 (0 : Nat))))] (by kernel_rfl) (by decide) (by kernel_rfl) (by kernel_rfl) (fun _ => (by kernel_rfl)) (fun u => J1 (by simpa using h1) ps.length 0 (by omega) (by omega) (by rw [List.drop_zero]) u)
end Go.Proofs.YtmmcamkmglpgiaaGreatDoor

namespace Go.Proofs.YtmmcamkmglpgiaaGreatDoor
open Go.RowKit Go.Shelf
set_option linter.all false
set_option maxRecDepth 100000
theorem parse1_in (c : Int) (w : World) : CallsIn Fence.wide 1 Tryz.prog 36 #[.int .i32 c] w fun e w' => e = .returned (.bool (badR c)) ∧ w' = w := by
  refine callsIn_of_wp Tryz.func36 rfl trivial ?_ rfl
  simp only [Tryz.ntmps36, List.size_toArray, List.length_cons, List.length_nil, Nat.reduceAdd, Nat.reduceSub, Array.replicate_succ, Array.replicate_zero, List.push_toArray, List.append_toArray, List.nil_append, List.cons_append]
  by_cases h : c ≤ 32
  · gi_wp2
    go_ret
    exact ⟨by simp [badR, h], rfl⟩
  · gi_wp2
    go_ret
    have h3 : ¬ c ≤ 32 := by omega
    refine ⟨?_, rfl⟩
    rw [show badR c = (decide (c ≤ 32) || decide (c > 126)) from rfl, decide_eq_false h3]
    rfl
def badName (s : List UInt8) : Bool := decide (0 ≤ Lib.idxFunc (fun c : Nat => badR c) true (strL s))
theorem contains_any (s : List UInt8) (w : World) : Calls Tryz.prog 35 #[.string (strL s), .func (.func 36) #[] #[]] w (RetB (badName s) w) := by
  refine (Tryz.strings_ContainsFunc_runes 36 #[] (enters_of Tryz.func36 (by kernel_rfl) rfl) (fun c : Nat => badR c) (strL s) w ?_).mono ?_
  · intro W x hx hb
    refine (callsIn_wide.1 (parse1_in (x : Int) W)).mono ?_
    rintro e w' ⟨rfl, rfl⟩
    exact ⟨rfl, 0, rfl⟩
  · rintro e w' ⟨rfl, hb⟩
    exact ⟨rfl, only_of_below hb⟩
def headL : List UInt8 := [112, 114, 111, 103, 32]
def trimN (x : List UInt8) : List UInt8 := Lib.trimSuffix x [10]
def endsN (x : List UInt8) : Bool := Lib.hasSuffix x [10]
def isHead (x : List UInt8) : Bool := Lib.hasPrefix x headL
def behind (x : List UInt8) : List UInt8 := Lib.trimPrefix x headL
theorem suffix_any (s : List UInt8) (hs : s.length ≤ 9223372036854775807) (w : World) : Calls Tryz.prog 31 #[.string (strL s), .string (strL [10])] w (RetB (endsN s) w) := by
  refine (Tryz.strings_HasSuffix (strL s) (strL [10]) w hs).mono ?_
  rintro e w' ⟨rfl, rfl⟩
  exact ⟨rfl, Only.refl _ _⟩
theorem trimN_any (s : List UInt8) (hs : s.length ≤ 9223372036854775807) (w : World) : Calls Tryz.prog 33 #[.string (strL s), .string (strL [10])] w fun e w' => e = .returned (.string (strL (trimN s))) ∧ Only [] w w' := by
  refine (Tryz.strings_TrimSuffix (strL s) (strL [10]) w hs).mono ?_
  rintro e w' ⟨rfl, rfl⟩
  exact ⟨rfl, Only.refl _ _⟩
theorem cutP_any (s : List UInt8) (w : World) : Calls Tryz.prog 34 #[.string (strL s), .string (strL headL)] w fun e w' => e = .returned (.tuple #[.string (strL (behind s)), .bool (isHead s)]) ∧ Only [] w w' := by
  refine (Tryz.strings_CutPrefix (strL s) (strL headL) w).mono ?_
  rintro e w' ⟨rfl, rfl⟩
  exact ⟨rfl, Only.refl _ _⟩
abbrev LinesR (s : List UInt8) (w : World) : Ending → World → Prop := fun e w' => ∃ b : Nat, e = .returned (.func (.func 52) #[] #[.pointer (some ⟨b, 0, none⟩)]) ∧ Only [] w w' ∧ Blk w' b 9 [.string (strL s)] ∧ ∀ a, (some ⟨b, 0, none⟩ : Option Addr) = some a → w.heap.size ≤ a.block ∧ a.block < w'.heap.size
theorem lines_any (s : List UInt8) (w : World) : Calls Tryz.prog 32 #[.string (strL s)] w (LinesR s w) := by
  refine Hs.enter Tryz.func32 [] [] [] [.c (.v (.string (strL s)))] (Mem.start0 w) (by kernel_rfl) (by kernel_rfl) ?_
  refine Hs.run1 300 (fun _ => by kernel_rfl) fun b0 => ?_
  refine Hs.ret (v := .func (.func 52) #[] #[.pointer (some ⟨b0, 0, none⟩)]) Tryz.func32 (by kernel_rfl) fun w' H => ?_
  have hB : Blk w' b0 9 [.string (strL s)] := Mem.at (wr := true) (T := 9) (cs := [.v (.string (strL s))]) H 0 (by kernel_rfl)
  have hn := H.own 0 (.b true 9 [.v (.string (strL s))]) b0 (by kernel_rfl) rfl rfl
  refine ⟨b0, rfl, H.only, hB, fun a ha => ?_⟩
  injection ha with ha
  subst ha
  refine ⟨?_, hB.lt⟩
  rcases hn with h | h
  · cases h
  · exact h
/-- A line's operation, at the last program. -/
def addOp (o : OP9) : List PM → Option (List PM)
  | [] => none
  | [m] => some [(m.1, m.2 ++ [o])]
  | m :: a :: l => match addOp o (a :: l) with
    | some l' => some (m :: l')
    | none => none
theorem addOp_app (o : OP9) (m : PM) : ∀ l : List PM, addOp o (l ++ [m]) = some (l ++ [(m.1, m.2 ++ [o])])
  | [] => rfl
  | [a] => rfl
  | a :: b :: l => by
    have ih := addOp_app o m (b :: l)
    have e : addOp o (a :: ((b :: l) ++ [m])) = (match addOp o ((b :: l) ++ [m]) with
      | some l' => some (a :: l')
      | none => none) := rfl
    rw [List.cons_append, e, ih]
    rfl
/-- What a line makes of programs. -/
def stepX (l : List PM) (x : List UInt8) : Option (List PM) := match isHead x with
  | true => match badName (behind x) with
    | true => none
    | false => some (l ++ [(strL (behind x), [])])
  | false => match opB x with
    | (_, false) => none
    | (o, true) => addOp o l
def stepP (l : List PM) (x : List UInt8) : Option (List PM) := stepX l (trimN x)
def foldP : List PM → List (List UInt8) → Option (List PM)
  | l, [] => some l
  | l, x :: t => match stepP l x with
    | some l' => foldP l' t
    | none => none
theorem foldP_app : ∀ (a b : List (List UInt8)) (l : List PM), foldP l (a ++ b) = (match foldP l a with
    | some l' => foldP l' b
    | none => none)
  | [], b, l => rfl
  | x :: a, b, l => by
    have e : foldP l (x :: (a ++ b)) = (match stepP l x with
      | some l' => foldP l' (a ++ b)
      | none => none) := rfl
    have e2 : foldP l (x :: a) = (match stepP l x with
      | some l' => foldP l' a
      | none => none) := rfl
    rw [List.cons_append, e, e2]
    cases stepP l x with
    | none => rfl
    | some l' => exact foldP_app a b l'
theorem foldP_one {l l' : List PM} {a : List (List UInt8)} {x : List UInt8} (h : foldP l a = some l') : foldP l (a ++ [x]) = stepP l' x := by
  rw [foldP_app, h]
  show (match stepP l' x with
    | some l' => foldP l' []
    | none => none) = _
  cases stepP l' x <;> rfl
theorem foldP_bad {l l' : List PM} {a : List (List UInt8)} {x : List UInt8} {t : List (List UInt8)} (h : foldP l a = some l') (hx : stepP l' x = none) : foldP l (a ++ x :: t) = none := by
  rw [foldP_app, h]
  show (match stepP l' x with
    | some l' => foldP l' t
    | none => none) = _
  rw [hx]
/-- The programs that a text says, or what is wrong. -/
def parseM (s : List UInt8) : Option (List PM) × Int := match decide (262144 < s.length) with
  | true => (none, 6)
  | false => match !s.isEmpty && !endsN s with
    | true => (none, 4)
    | false => match foldP [] (linesB s) with
      | none => (none, 4)
      | some l => if checkM l = 0 then (some l, 0) else (none, checkM l)
theorem lines_mem : ∀ {s x : List UInt8}, x ∈ linesB s → x.length ≤ s.length
  | [], x, h => by cases h
  | c :: s, x, h => by
    unfold linesB at h
    split at h
    · rcases List.mem_cons.1 h with h | h
      · subst h; simp
      · have := lines_mem h; simp; omega
    · split at h
      · rename_i e
        simp at h; subst h; simp
      · rename_i h0 t e
        rcases List.mem_cons.1 h with h | h
        · subst h
          have : h0 ∈ linesB s := by rw [e]; simp
          have := lines_mem this
          simp; omega
        · have : x ∈ linesB s := by rw [e]; simp [h]
          have := lines_mem this
          simp; omega
theorem lines_len : ∀ s : List UInt8, (linesB s).length ≤ s.length
  | [] => by simp [linesB]
  | c :: s => by
    have ih := lines_len s
    unfold linesB
    split
    · simp; omega
    · split
      · simp
      · rename_i h0 t e
        rw [e] at ih
        simp at ih ⊢; omega
end Go.Proofs.YtmmcamkmglpgiaaGreatDoor

namespace Go.Proofs.YtmmcamkmglpgiaaGreatDoor
open Go.RowKit Go.Shelf
set_option linter.all false
set_option maxRecDepth 100000
noncomputable abbrev rfP : RF := rfOf Tryz.f17
def hpP (outs : List PG) (n : Nat) (A : Option Addr) (c : Nat) (cur : PG) (j : Nat) : List HB := [.b true 29 [.v (.slice none 0 0)], .b true 27 [.v (.int .i64 0)], .b true 29 [.v (.slice A n c)], .s A c n 33 2 (outs.flatMap cPG), .s cur.A cur.c j 36 4 (cur.ops.flatMap cOP)]
abbrev btP (b2 b3 b4 : Nat) : List Nat := [b2, b3, b4, 0, 0]
def slP (Bs : Nat) (u : Nat → Value) : Slots := pins [(2, .c (.p 0 0)), (3, .c (.p 1 0)), (4, .c (.p 2 0)), (23, .c (.v (.func (.func 52) #[] #[.pointer (some ⟨Bs, 0, none⟩)])))] (.vals u)
def outsP (done : List PG) (cur : PG) : Bool → List PG
  | true => done ++ [cur]
  | false => []
theorem hpP_ro (outs : List PG) (n : Nat) (A : Option Addr) (c : Nat) (cur : PG) (j : Nat) : roOk (hpP outs n A c cur j) = true := rfl
noncomputable def tmP (b2 b3 b4 Bs : Nat) (u : Nat → Value) : Array Value := (fr (Tryz.f17).ntmps (btP b2 b3 b4) (slP Bs u)).tmps
noncomputable def rcP (b2 b3 b4 Bs : Nat) (u : Nat → Value) (r : Nat) (st : LoopState) (pe : Option Code) : Loop := recL 17 (tmP b2 b3 b4 Bs u) rfP.ps rfP.asg rfP.body r st pe
/-- Where all lies. -/
structure KP where
  b2 : Nat
  b3 : Nat
  b4 : Nat
  Bs : Nat
  l : Nat
  r : Nat
  u : Nat → Value
def KP.bt (k : KP) : List Nat := btP k.b2 k.b3 k.b4
noncomputable def KP.rc (k : KP) (st : LoopState) (pe : Option Code) : Loop := rcP k.b2 k.b3 k.b4 k.Bs k.u k.r st pe
structure KP.ok (k : KP) (wE : World) : Prop where
  lr : k.l ≠ k.r
  Bl : k.Bs ≠ k.l
  Br : k.Bs ≠ k.r
  l : wE.heap.size ≤ k.l
  r : wE.heap.size ≤ k.r
  B : wE.heap.size ≤ k.Bs
/-- The programs so far. -/
structure StP where
  done : List PG
  cur : PG
  has : Bool
  A : Option Addr
  c : Nat
  n : Nat
  j : Nat
def StP.outs (z : StP) : List PG := outsP z.done z.cur z.has
def StP.hp (z : StP) : List HB := hpP z.outs z.n z.A z.c z.cur z.j
structure StP.ok (z : StP) (m : Nat) : Prop where
  n : z.outs.length = z.n
  j : z.cur.ops.length = z.j
  nm : z.n ≤ m
  jm : z.j ≤ m
structure JP (wE : World) (k : KP) (z : StP) (fp : List Nat) (pre : List (List UInt8)) (bs : List Nat) (W : World) : Prop where
  fold : foldP [] pre = some (z.outs.map PG.m)
  ok : z.ok pre.length
  only : Only [] wE W
  hb : bs = wrN k.bt z.hp
  mem : Mem W bs k.bt z.hp W
  st : StX fp (fun w => ∀ x ∈ z.done, PgOk w x)
  dn : ∀ x ∈ z.done, PgOk W x
  hl : W.heap[k.l]? = some (.loop (k.rc .ready none))
  hr : W.heap[k.r]? = some (.deferred (some []))
  far : ∀ x ∈ bs ++ fp, x ≠ k.l ∧ x ≠ k.r ∧ x ≠ k.Bs ∧ wE.heap.size ≤ x ∧ x < W.heap.size
  ap : ∀ x ∈ fp, x ∉ bs
  BW : k.Bs < W.heap.size
def JQ (wE : World) (k : KP) (pre : List (List UInt8)) (bs : List Nat) (W : World) : Prop := ∃ z fp, JP wE k z fp pre bs W
structure JX (wE : World) (k : KP) (s : List UInt8) (W : World) : Prop where
  fold : foldP [] (linesB s) = none
  only : Only [] wE W
  h2 : Blk W k.b2 29 [.slice none 0 0]
  h3 : Blk W k.b3 27 [.int .i64 4]
  ne : k.b2 ≠ k.b3
  n2 : k.b2 ≠ k.r ∧ k.b2 ≠ k.l
  n3 : k.b3 ≠ k.r ∧ k.b3 ≠ k.l
  o2 : wE.heap.size ≤ k.b2
  o3 : wE.heap.size ≤ k.b3
  hl : W.heap[k.l]? = some (.loop (k.rc .done (some .ret)))
  hr : W.heap[k.r]? = some (.deferred (some []))
/-- A round's facts. -/
def QP (k : KP) (fp : List Nat) (W1 : World) (w : World) : Prop := w.heap[k.l]? = some (.loop (k.rc .busy none)) ∧ w.heap[k.r]? = some (.deferred (some [])) ∧ ∀ x ∈ fp, w.heap[x]? = W1.heap[x]?
theorem QP.st {k : KP} {fp : List Nat} {W1 : World} : StX (k.l :: k.r :: fp) (QP k fp W1) := fun w w' hs he h => by
  refine ⟨(he k.l (by simp)).trans h.1, (he k.r (by simp)).trans h.2.1, fun x hx => (he x (by simp [hx])).trans (h.2.2 x hx)⟩
section
variable {wE W1 w4 w : World} {k : KP} {z z' : StP} {fp fp' bs L4 : List Nat} {pre : List (List UInt8)} {x : List UInt8} {s : List UInt8}
abbrev GP (k : KP) (fp bs : List Nat) : List Nat := bs ++ (k.l :: k.r :: fp)
theorem JP.back (J : JP wE k z fp pre bs W1) (K : k.ok wE) (O : Only (GP k fp bs) W1 w) : Only [] wE w := J.only.trans O fun x hx => .inr (by
  simp only [GP, List.mem_append, List.mem_cons] at hx
  rcases hx with h | rfl | rfl | h
  · exact (J.far x (by simp [h])).2.2.2.1
  · exact K.l
  · exact K.r
  · exact (J.far x (by simp [h])).2.2.2.1)
abbrev RdP (wE : World) (k : KP) (s : List UInt8) (pre : List (List UInt8)) (x : List UInt8) (bs : List Nat) (W1 : World) : Ending → World → Prop := fun e W' => (e = .returned (.bool true) ∧ ∃ bs', JQ wE k (pre ++ [x]) bs' W' ∧ Only (k.l :: bs) W1 W' ∧ ∀ y ∈ bs', y ∈ bs ∨ W1.heap.size ≤ y) ∨ (e = .returned (.bool false) ∧ JX wE k s W')
/-- What a round has done to the world. -/
theorem roundO (J : JP wE k z fp pre bs W1) {Q : World → Prop} (C : Fx W1 (GP k fp bs) w4 L4 (k.l :: k.r :: fp') Q) (hQ : ∀ w, Q w → QP k fp W1 w) {β : List Nat} {hp : List HB} (H : Mem w4 L4 β hp w) (o : Obj) : Only (k.l :: bs) W1 (w.putObj k.l o) := by
  have hQ := hQ w (C.at H)
  have O1 := C.fin H
  refine Only.trans ⟨O1.os, O1.tape, O1.output, O1.size, fun i hi hn => ?_⟩ (only_put w k.l o) (fun y hy => .inl (by simp at hy; simp [hy]))
  simp only [List.mem_cons, not_or] at hn
  by_cases h1 : i = k.r
  · subst h1; rw [hQ.2.1, J.hr]
  by_cases h2 : i ∈ fp
  · exact hQ.2.2 i h2
  exact O1.block i hi (by simp only [GP, List.mem_append, List.mem_cons, not_or]; exact ⟨hn.2, hn.1, h1, h2⟩)
/-- The end of a round. -/
theorem endP (K : k.ok wE) (J : JP wE k z fp pre bs W1) (hfold : stepP (z.outs.map PG.m) x = some (z'.outs.map PG.m)) (hok : z'.ok (pre.length + 1))
    (C : Fx W1 (GP k fp bs) w4 L4 (k.l :: k.r :: fp') (fun w => QP k fp W1 w ∧ ∀ y ∈ z'.done, PgOk w y)) (hst : StX fp' (fun w => ∀ y ∈ z'.done, PgOk w y)) (hfp : ∀ y ∈ fp', y ∈ fp ∨ y ∈ bs) (hsub : ∀ y ∈ fp, y ∈ fp') (H : Mem w4 L4 k.bt z'.hp w) :
    ∃ r : Loop, w.heap[k.l]? = some (.loop r) ∧ RdP wE k s pre x bs W1 (.returned (.bool true)) (w.putObj k.l (.loop { r with state := .ready, pending := none })) := by
  have Q := C.at H
  have O1 := C.fin H
  have hlW : k.l < W1.heap.size := (Array.getElem?_eq_some_iff.1 J.hl).1
  have hrW : k.r < W1.heap.size := (Array.getElem?_eq_some_iff.1 J.hr).1
  have hBW : k.Bs < W1.heap.size := J.BW
  have hlw : k.l < w.heap.size := (Array.getElem?_eq_some_iff.1 Q.1.1).1
  have hsz := O1.size
  have hN : ∀ y ∈ wrN k.bt z'.hp, y ∉ k.l :: k.r :: fp' := fun y hy hm => by
    have h1 := (C.key H y hy).1
    have h2 := C.own y hm
    rcases h1 with h | h
    · exact h2.2.1 h
    · omega
  have hfpG : ∀ y ∈ fp', y ≠ k.l ∧ y ≠ k.r ∧ y ≠ k.Bs ∧ wE.heap.size ≤ y ∧ y < W1.heap.size := fun y hy => J.far y (by rcases hfp y hy with h | h <;> simp [h])
  have hbs : ∀ y ∈ wrN k.bt z'.hp, y ∈ bs ∨ W1.heap.size ≤ y := fun y hy => by
    have hny := hN y hy
    simp only [List.mem_cons, not_or] at hny
    rcases (C.key H y hy).2 with h | h
    · simp only [GP, List.mem_append, List.mem_cons] at h
      rcases h with h | h | h | h
      · exact .inl h
      · exact absurd h hny.1
      · exact absurd h hny.2.1
      · exact absurd (hsub y h) hny.2.2
    · exact .inr h
  have hbig : ∀ (y : Nat) (o : Obj), y < w.heap.size → y < (w.putObj k.l o).heap.size := fun y o h => Nat.lt_of_lt_of_le h (only_put w k.l o).size
  have hG : ∀ y ∈ GP k fp bs, wE.heap.size ≤ y := fun y hy => by
    simp only [GP, List.mem_append, List.mem_cons] at hy
    rcases hy with h | h | h | h
    · exact (J.far y (by simp [h])).2.2.2.1
    · subst h; exact K.l
    · subst h; exact K.r
    · exact (J.far y (by simp [h])).2.2.2.1
  have OE : Only [] wE w := J.back K O1
  have hOp := only_put w k.l (.loop { k.rc .busy none with state := .ready, pending := none })
  refine ⟨k.rc .busy none, Q.1.1, .inl ⟨rfl, wrN k.bt z'.hp, ⟨z', fp', ?_⟩, roundO J C (fun w h => h.1) H _, hbs⟩⟩
  have hput : ∀ (y : Nat), y ≠ k.l → (w.putObj k.l (.loop { k.rc .busy none with state := .ready, pending := none })).heap[y]? = w.heap[y]? := fun y hy => World.putObj_heap_other hy
  refine ⟨(foldP_one J.fold).trans hfold, by rw [List.length_append]; exact hok, OE.trans hOp (fun y hy => .inr (by simp at hy; subst hy; exact K.l)), rfl, Mem.rebaseF H hOp (fun i h y h1 h2 hm => ?_), hst, ?_, World.putObj_heap_same hlw, ?_, fun y hy => ?_, fun y hy hm => ?_, ?_⟩
  · simp only [List.mem_singleton] at hm
    subst hm
    exact C.apart H (hpP_ro ..) i h _ h1 h2 (by simp)
  · exact hst w _ hOp.size (fun y hy => hput y (hfpG y hy).1) Q.2
  · rw [hput k.r (Ne.symm K.lr)]; exact Q.1.2.1
  · rcases List.mem_append.1 hy with h | h
    · have hny := hN y h
      simp only [List.mem_cons, not_or] at hny
      have hlt := H.wrN_lt y h
      rcases hbs y h with h2 | h2
      · have := J.far y (by simp [h2])
        exact ⟨hny.1, hny.2.1, this.2.2.1, this.2.2.2.1, hbig _ _ hlt⟩
      · have := J.only.size
        exact ⟨hny.1, hny.2.1, by omega, by omega, hbig _ _ hlt⟩
    · have := hfpG y h
      exact ⟨this.1, this.2.1, this.2.2.1, this.2.2.2.1, hbig _ _ (by omega)⟩
  · exact hN y hm (by simp [hy])
  · exact hbig _ _ (by omega)
/-- A round that returns. -/
theorem failP (K : k.ok wE) (J : JP wE k z fp pre bs W1) (hfold : stepP (z.outs.map PG.m) x = none) {t : List (List UInt8)} (ht : pre ++ x :: t = linesB s)
    {Q : World → Prop} (C : Fx W1 (GP k fp bs) w4 L4 (k.l :: k.r :: fp') Q) (hQ : ∀ w, Q w → QP k fp W1 w) {β : List Nat} {hp : List HB} (H : Mem w4 L4 β hp w) (h2 : Blk w k.b2 29 [.slice none 0 0]) (h3 : Blk w k.b3 27 [.int .i64 4]) :
    ∃ r : Loop, w.heap[k.l]? = some (.loop r) ∧ RdP wE k s pre x bs W1 (.returned (.bool false)) (w.putObj k.l (.loop { r with state := .done, pending := some .ret })) := by
  have Q := hQ w (C.at H)
  have O1 := C.fin H
  have hlw : k.l < w.heap.size := (Array.getElem?_eq_some_iff.1 Q.1).1
  have OE : Only [] wE w := J.back K O1
  have hOp := only_put w k.l (.loop { k.rc .busy none with state := .done, pending := some .ret })
  have m2 : k.b2 ∈ bs := by rw [J.hb]; exact wrN_mem.2 ⟨0, .b true 29 [.v (.slice none 0 0)], k.b2, rfl, rfl, rfl, rfl⟩
  have m3 : k.b3 ∈ bs := by rw [J.hb]; exact wrN_mem.2 ⟨1, .b true 27 [.v (.int .i64 0)], k.b3, rfl, rfl, rfl, rfl⟩
  have f2 := J.far k.b2 (by simp [m2])
  have f3 := J.far k.b3 (by simp [m3])
  have hne : k.b2 ≠ k.b3 := fun e => by
    have := J.mem.inj 0 1 (.b true 29 [.v (.slice none 0 0)]) (.b true 27 [.v (.int .i64 0)]) k.b2 rfl rfl rfl (by show some k.b3 = some k.b2; rw [e])
    cases this
  refine ⟨k.rc .busy none, Q.1, .inr ⟨rfl, ?_⟩⟩
  have hput : ∀ (y : Nat), y ≠ k.l → (w.putObj k.l (.loop { k.rc .busy none with state := .done, pending := some .ret })).heap[y]? = w.heap[y]? := fun y hy => World.putObj_heap_other hy
  exact ⟨by rw [← ht]; exact foldP_bad J.fold hfold, OE.trans hOp (fun y hy => .inr (by simp at hy; subst hy; exact K.l)), (hput _ f2.1).trans h2, (hput _ f3.1).trans h3, hne, ⟨f2.2.1, f2.1⟩, ⟨f3.2.1, f3.1⟩, f2.2.2.2.1, f3.2.2.2.1, World.putObj_heap_same hlw, (hput _ (Ne.symm K.lr)).trans Q.2.1⟩
end
end Go.Proofs.YtmmcamkmglpgiaaGreatDoor

namespace Go.Proofs.YtmmcamkmglpgiaaGreatDoor
open Go.RowKit Go.Shelf
set_option linter.all false
set_option maxRecDepth 100000
theorem pgOk_st (x : PG) : StX (x.A.map (·.block)).toList (fun w => PgOk w x) := fun w w' hs he h => by
  refine ⟨fun h0 => ?_, h.2⟩
  obtain ⟨b, off, e, hlt, hc⟩ := h.1 h0
  refine ⟨b, off, e, Nat.lt_of_lt_of_le hlt hs, fun j u hj => ?_⟩
  exact (World.cell?_of_block (w := w) (he b (by rw [e]; simp))).trans (hc j u hj)
theorem splice_last (done : List PG) (cur : PG) (A : Option Addr) (c : Nat) (o : OP9) (d : Nat) (hd : done.length = d) : splice ((done ++ [cur]).flatMap cPG) (0 + d * 2 + 1) [.slice A (cur.ops.length + 1) c] = (done ++ [(⟨cur.n, A, c, cur.ops ++ [o]⟩ : PG)]).flatMap cPG := by
  subst hd
  have e : (done.flatMap cPG).length = done.length * 2 := by
    induction done with
    | nil => rfl
    | cons a l ih => rw [List.flatMap_cons, List.length_append, ih, cPG_len, List.length_cons]; omega
  have e1 : (done ++ [cur]).flatMap cPG = done.flatMap cPG ++ cPG cur := by simp
  have e2 : (done ++ [(⟨cur.n, A, c, cur.ops ++ [o]⟩ : PG)]).flatMap cPG = done.flatMap cPG ++ cPG ⟨cur.n, A, c, cur.ops ++ [o]⟩ := by simp
  rw [e1, e2]
  unfold splice
  rw [List.take_append, List.drop_append, e]
  have e3 : 0 + done.length * 2 + 1 - done.length * 2 = 1 := by omega
  have e4 : (done.flatMap cPG).take (0 + done.length * 2 + 1) = done.flatMap cPG := List.take_of_length_le (by omega)
  rw [e3, e4]
  have e5 : (done.flatMap cPG).drop (0 + done.length * 2 + 1 + [(.slice A (cur.ops.length + 1) c : Value)].length) = [] := List.drop_of_length_le (by rw [List.length_cons, List.length_nil, e]; omega)
  rw [e5]
  have e6 : 0 + done.length * 2 + 1 + [(.slice A (cur.ops.length + 1) c : Value)].length - done.length * 2 = 2 := by rw [List.length_cons, List.length_nil]; omega
  rw [e6]
  simp [cPG]
theorem wrap_lastP {d : Nat} (h : d < 9223372036854775807) : Value.int .i64 (IntKind.i64.wrap (((d + 1 : Nat) : Int) - 1)) = (SV.c (.v (.int .i64 (d : Nat)))).den [] := by
  rw [IntWalk.i64_in _ (by omega)]
  show Value.int _ _ = Value.int _ _
  congr 1
  omega
theorem trimN_le (x : List UInt8) : (trimN x).length ≤ x.length := by
  unfold trimN Lib.trimSuffix
  split
  · simp
  · exact Nat.le_refl _
theorem roundP {wE W1 : World} {k : KP} {z : StP} {fp bs : List Nat} {pre : List (List UInt8)} {x : List UInt8} {s : List UInt8} (hs : s.length ≤ 262144) (hS : SLib wE) (K : k.ok wE) (J : JP wE k z fp pre bs W1) {t : List (List UInt8)} (ht : pre ++ x :: t = linesB s) :
    YieldAt Fence.wide 0 Tryz.prog k.l #[.string (strL x)] W1 (RdP wE k s pre x bs W1) := by
  have hxl : x.length ≤ 262144 := Nat.le_trans (lines_mem (s := s) (by rw [← ht]; simp)) hs
  have htl : (trimN x).length ≤ 262144 := Nat.le_trans (trimN_le x) hxl
  have hpl : pre.length + 1 ≤ 262144 := by
    have h1 := lines_len s
    rw [← ht] at h1
    simp at h1
    omega
  obtain ⟨b2, b3, b4, Bs, l, r, u⟩ := k
  obtain ⟨done, cur, has, A, c, n, j⟩ := z
  obtain ⟨hn, hj, hnm, hjm⟩ := J.ok
  dsimp only [StP.outs] at hn hj hnm hjm
  have hlbs : l ∉ bs := fun h => (J.far l (by simp [h])).1 rfl
  have hM : Mem W1 bs (btP b2 b3 b4) (hpP (outsP done cur has) n A c cur j) W1 := J.mem
  refine yieldAt_of (t := 24) (rf := rfP) (L := bs) (β := btP b2 b3 b4) (slP Bs u) (hpP (outsP done cur has) n A c cur j) rfl (by kernel_rfl) J.hl (by kernel_rfl) hM (by kernel_rfl) ?_
  refine Hs.run0 300 (fun _ => by kernel_rfl) ?_
  refine Hs.rBegin (r := rcP b2 b3 b4 Bs u r .ready none) (k := [.code rfP.body]) ⟨(by kernel_rfl), (by kernel_rfl)⟩ (by kernel_rfl) J.hl rfl hlbs fun w2 w3 H2 e3 h3 => ?_
  subst e3
  have hlW : l < W1.heap.size := (Array.getElem?_eq_some_iff.1 J.hl).1
  have hrW : r < W1.heap.size := (Array.getElem?_eq_some_iff.1 J.hr).1
  have hO2 := H2.only
  have hOp := only_put w2 l (.loop (rcP b2 b3 b4 Bs u r .busy none))
  have hbs : wrN (btP b2 b3 b4) (hpP (outsP done cur has) n A c cur j) = bs := J.hb.symm
  have hrbs : r ∉ bs := fun h => (J.far r (by simp [h])).2.1 rfl
  have hb2 : ∀ y, y < W1.heap.size → y ∉ bs → y ≠ l → (w2.putObj l (.loop (rcP b2 b3 b4 Bs u r .busy none))).heap[y]? = W1.heap[y]? := fun y h1 h2 h3 => (World.putObj_heap_other h3).trans (hO2.block y h1 h2)
  have C1 : Fx W1 (GP ⟨b2, b3, b4, Bs, l, r, u⟩ fp bs) (w2.putObj l (.loop (rcP b2 b3 b4 Bs u r .busy none))) (wrN (btP b2 b3 b4) (hpP (outsP done cur has) n A c cur j)) (l :: r :: fp) (QP ⟨b2, b3, b4, Bs, l, r, u⟩ fp W1) := by
    refine ⟨?_, fun y hy => .inl ?_, ⟨h3, ?_, fun y hy => ?_⟩, fun y hy => ⟨?_, ?_, .inl ?_⟩, QP.st (k := ⟨b2, b3, b4, Bs, l, r, u⟩)⟩
    · refine Only.trans (L' := [l]) ⟨hO2.os, hO2.tape, hO2.output, hO2.size, fun i hi hn => hO2.block i hi fun hm => hn ?_⟩ hOp fun y hy => .inl ?_
      · simp [hm]
      · simp only [List.mem_singleton] at hy; subst hy; simp
    · rw [hbs] at hy; simp [hy]
    · exact (hb2 r hrW hrbs (Ne.symm K.lr)).trans J.hr
    · exact hb2 y (J.far y (by simp [hy])).2.2.2.2 (J.ap y hy) (J.far y (by simp [hy])).1
    · refine Nat.lt_of_lt_of_le ?_ (Nat.le_trans hO2.size hOp.size)
      simp only [List.mem_cons] at hy
      rcases hy with h | h | h
      · subst h; exact hlW
      · subst h; exact hrW
      · exact (J.far y (by simp [h])).2.2.2.2
    · rw [hbs]
      simp only [List.mem_cons] at hy
      rcases hy with h | h | h
      · subst h; exact hlbs
      · subst h; exact hrbs
      · exact J.ap y h
    · simp only [List.mem_append, List.mem_cons]
      simp only [List.mem_cons] at hy
      exact .inr hy
  have hS1 : ∀ {w : World} {β : List Nat} {hp : List HB}, Mem (w2.putObj l (.loop (rcP b2 b3 b4 Bs u r .busy none))) (wrN (btP b2 b3 b4) (hpP (outsP done cur has) n A c cur j)) β hp w → SLib w := fun H => hS.only (J.back K (C1.fin H))
  have hok2 := J.ok
  clear hOp hb2 hlW hrW H2 hO2 hrbs hlbs
  refine Hs.run0 300 (fun _ => by kernel_rfl) ?_
  refine Hs.callV (v := .string (strL (trimN x))) (fun w' H => trimN_any x (by omega) w') (by kernel_rfl) ?_
  refine Hs.run0 300 (fun _ => by kernel_rfl) ?_
  refine Hs.callV (v := .tuple #[.string (strL (behind (trimN x))), .bool (isHead (trimN x))]) (fun w' H => cutP_any _ w') (by kernel_rfl) ?_
  refine Hs.run0 300 (fun _ => by kernel_rfl) ?_
  refine Hs.cond (isHead (trimN x)) (by kernel_rfl) (fun h => ?_) (fun h => ?_)
  · refine Hs.run0 300 (fun _ => by kernel_rfl) ?_
    refine Hs.callV (v := .bool (badName (behind (trimN x)))) (fun w' H => contains_any _ w') (by kernel_rfl) ?_
    refine Hs.run0 300 (fun _ => by kernel_rfl) ?_
    refine Hs.cond (badName (behind (trimN x))) (by kernel_rfl) (fun h2 => ?_) (fun h2 => ?_)
    · refine Hs.run0 300 (fun _ => by kernel_rfl) ?_
      refine Hs.rRetB (by kernel_rfl) fun w H => ?_
      have e : stepP ((outsP done cur has).map PG.m) x = none := by unfold stepP stepX; rw [h, h2]
      exact failP K J e ht C1 (fun w h => h) H (Mem.at (wr := true) (T := 29) (cs := [.v (.slice none 0 0)]) H 0 (by kernel_rfl)) (Mem.at (wr := true) (T := 27) (cs := [.v (.int .i64 4)]) H 1 (by kernel_rfl))
    · have e : stepP ((outsP done cur has).map PG.m) x = some ((outsP done cur has).map PG.m ++ [(strL (behind (trimN x)), [])]) := by unfold stepP stepX; rw [h, h2]
      refine Hs.run1 300 (fun _ => by kernel_rfl) fun b5 => ?_
      refine Hs.app (cf := cPG) (c := 1) (ty := 29) 3 elemPr (outsP done cur has) [(⟨strL (behind (trimN x)), none, 0, []⟩ : PG)] n 1 hn rfl cPG_one cPG_len (A := A) (B := some ⟨b5, 0, none⟩) (cap := c) (by kernel_rfl) (by kernel_rfl) (by kernel_rfl) (fun w' H => H.rdB (cf := cPG) (wr := true) (T := 33) (cs := [.v (.string (strL (behind (trimN x)))), .v (.slice none 0 0)]) (gs := [(⟨strL (behind (trimN x)), none, 0, []⟩ : PG)]) 5 (by kernel_rfl) rfl) (by unfold maxLen; omega) (by rw [elemPr_by]; omega) fun A6 c6 h6 => ?_
      refine Hs.run0 300 (fun _ => by kernel_rfl) ?_
      have hst : StX ((cur.A.map (·.block)).toList ++ fp) (fun w => ∀ y ∈ outsP done cur has, PgOk w y) := by
        intro w w' h1 h2 h3 y hy
        cases has with
        | false => cases hy
        | true =>
          rcases List.mem_append.1 hy with h4 | h4
          · exact J.st w w' h1 (fun q hq => h2 q (by simp [hq])) (fun y hy => h3 y (List.mem_append.2 (.inl hy))) y h4
          · obtain rfl := List.mem_singleton.1 h4
            exact pgOk_st y w w' h1 (fun q hq => h2 q (List.mem_append.2 (.inl hq))) (h3 y hy)
      have hfpc : ∀ y ∈ (cur.A.map (·.block)).toList, cur.A.map (·.block) = some y := fun y hy => Option.mem_toList.1 hy
      refine Hs.shutFx [4] ((cur.A.map (·.block)).toList) (fun w => PgOk w cur) C1 (pgOk_st cur) (fun w H => ?_) (fun y hy => ⟨4, by simp, .s cur.A cur.c j 36 4 (cur.ops.flatMap cOP), (by kernel_rfl), rfl, hfpc y hy⟩) (by kernel_rfl) fun w4 L4 C2 MV => ?_
      · have h1 := Mem.rdX (cf := cOP) (E := 36) (size := 4) (A := cur.A) (cap := cur.c) H 4 hj (by kernel_rfl)
        have h2 := Mem.capS (cf := cOP) (E := 36) (size := 4) (A := cur.A) (cap := cur.c) H 4 hj (by kernel_rfl)
        exact ⟨h1, by rw [hj]; exact h2.1, h2.2⟩
      have C3 := C2.two (MV _ _ C1 (by simp))
      have C5 : Fx W1 (GP ⟨b2, b3, b4, Bs, l, r, u⟩ fp bs) w4 L4 (l :: r :: ((cur.A.map (·.block)).toList ++ fp)) (fun w => QP ⟨b2, b3, b4, Bs, l, r, u⟩ fp W1 w ∧ ∀ y ∈ outsP done cur has, PgOk w y) := by
        refine C3.sub (fun y hy => ?_) (fun h => ⟨h.2, ?_⟩) ?_
        · simp only [List.mem_cons, List.mem_append] at hy ⊢
          rcases hy with h | h | h | h
          · exact .inr (.inl h)
          · exact .inr (.inr (.inl h))
          · exact .inl h
          · exact .inr (.inr (.inr h))
        · intro y hy
          cases has with
          | false => cases hy
          | true =>
            rcases List.mem_append.1 hy with h4 | h4
            · exact J.st W1 w4 C3.only.size h.2.2.2 J.dn y h4
            · obtain rfl := List.mem_singleton.1 h4
              exact h.1
        · intro w w' h1 h2 h3
          exact ⟨QP.st (k := ⟨b2, b3, b4, Bs, l, r, u⟩) w w' h1 (fun q hq => h2 q (by simp only [List.mem_cons, List.mem_append] at hq ⊢; rcases hq with h | h | h <;> simp [h])) h3.1, hst w w' h1 (fun q hq => h2 q (by simp only [List.mem_cons]; exact .inr (.inr hq))) h3.2⟩
      clear C1 C2 C3 MV hS1
      refine Hs.nilS 36 4 (by kernel_rfl) ?_ (by kernel_rfl)
      refine Hs.goto [] [0, 1, 2, 3, 6] (StP.hp ⟨outsP done cur has, ⟨strL (behind (trimN x)), none, 0, []⟩, true, A6, c6, n + 1, 0⟩) [] (by kernel_rfl) (by decide) (by kernel_rfl) (by kernel_rfl) (fun _ => (by kernel_rfl)) (fun u2 => ?_)
      refine Hs.rEnd ⟨rfl, rfl⟩ fun w H => ?_
      refine endP (z' := ⟨outsP done cur has, ⟨strL (behind (trimN x)), none, 0, []⟩, true, A6, c6, n + 1, 0⟩) K J (e.trans ?_) ⟨?_, rfl, ?_, Nat.zero_le _⟩ C5 hst (fun y hy => ?_) (fun y hy => List.mem_append.2 (.inr hy)) H
      · show _ = some ((outsP done cur has ++ [_]).map PG.m)
        rw [List.map_append]
        rfl
      · show (outsP done cur has ++ [_]).length = n + 1
        rw [List.length_append, hn]
        rfl
      · show n + 1 ≤ pre.length + 1
        omega
      · rcases List.mem_append.1 hy with h4 | h4
        · refine .inr ?_
          rw [J.hb]
          exact wrN_mem.2 ⟨4, .s cur.A cur.c j 36 4 (cur.ops.flatMap cOP), 0, rfl, rfl, rfl, hfpc y h4⟩
        · exact .inl h4
  · refine Hs.run0 300 (fun _ => by kernel_rfl) ?_
    rcases hop : opB (trimN x) with ⟨o, ok⟩
    have hopC : ∀ w', SLib w' → Calls Tryz.prog 37 #[.string (strL (trimN x))] w' (fun e w2 => e = .returned (opV (o, ok)) ∧ Only [] w' w2) := by
      intro w' hS
      have := op_any19 (trimN x) (by omega) w' hS
      rwa [hop] at this
    refine Hs.callV (v := opV (o, ok)) (fun w' H => hopC w' (hS1 H)) (by kernel_rfl) ?_
    clear hopC hS1
    cases ok with
    | false =>
      have e : stepP ((outsP done cur has).map PG.m) x = none := by unfold stepP stepX; rw [h, hop]
      refine Hs.run1 300 (fun _ => by kernel_rfl) fun b5 => ?_
      refine Hs.rung0 [2] 300 (fun _ => by kernel_rfl) ?_
      refine Hs.condT (by kernel_rfl) ?_
      refine Hs.run0 300 (fun _ => by kernel_rfl) ?_
      refine Hs.rRetB (by kernel_rfl) fun w H => ?_
      exact failP K J e ht C1 (fun w h => h) H (Mem.at (wr := true) (T := 29) (cs := [.v (.slice none 0 0)]) H 0 (by kernel_rfl)) (Mem.at (wr := true) (T := 27) (cs := [.v (.int .i64 4)]) H 1 (by kernel_rfl))
    | true =>
      cases has with
      | false =>
        obtain rfl : n = 0 := hn.symm
        have e : stepP ((outsP done cur false).map PG.m) x = none := by unfold stepP stepX; rw [h, hop]; rfl
        refine Hs.run1 300 (fun _ => by kernel_rfl) fun b5 => ?_
        refine Hs.rung0 [2] 300 (fun _ => by kernel_rfl) ?_
        refine Hs.condT (by kernel_rfl) ?_
        refine Hs.run0 300 (fun _ => by kernel_rfl) ?_
        refine Hs.rRetB (by kernel_rfl) fun w H => ?_
        exact failP K J e ht C1 (fun w h => h) H (Mem.at (wr := true) (T := 29) (cs := [.v (.slice none 0 0)]) H 0 (by kernel_rfl)) (Mem.at (wr := true) (T := 27) (cs := [.v (.int .i64 4)]) H 1 (by kernel_rfl))
      | true =>
        have hn2 : done.length + 1 = n := by rw [← hn]; simp [outsP]
        subst hn2
        subst hj
        have e : stepP ((outsP done cur true).map PG.m) x = some (done.map PG.m ++ [(cur.n, cur.ops ++ [o])]) := by
          unfold stepP stepX
          rw [h, hop]
          show addOp o ((done ++ [cur]).map PG.m) = _
          rw [List.map_append]
          exact addOp_app o (PG.m cur) (done.map PG.m)
        have hfl : ((done ++ [cur]).flatMap cPG).length = (done.length + 1) * 2 := by
          rw [show (done.length + 1) = (done ++ [cur]).length by simp]
          generalize done ++ [cur] = q
          induction q with
          | nil => rfl
          | cons a l ih => rw [List.flatMap_cons, List.length_append, ih, cPG_len, List.length_cons]; omega
        refine Hs.run1 300 (fun _ => by kernel_rfl) fun b5 => ?_
        refine Hs.rung0 [2] 300 (fun _ => by kernel_rfl) ?_
        refine Hs.cond (decide (((done.length + 1 : Nat) : Int) = 0)) (by kernel_rfl) (fun h => by have := of_decide_eq_true h; omega) (fun _ => ?_)
        refine Hs.run0 300 (fun _ => by kernel_rfl) ?_
        refine Hs.someS (E := 33) (size := 2) (A := A) (cap := c) (nl := done.length + 1) (vs := (done ++ [cur]).flatMap cPG) 3 (by kernel_rfl) (by omega) fun g hg => ?_
        subst hg
        refine Hs.slot 55 (.c (.v (.int .i64 (done.length : Nat)))) rfl ((by kernel_rfl : _ = Value.int .i64 (IntKind.i64.wrap (((done.length + 1 : Nat) : Int) - 1))).trans (wrap_lastP (by omega))) ?_
        refine Hs.idx (b := g) (off := 0) (len := done.length + 1) (c := c) (i := done.length) elemPr (by omega) (by kernel_rfl) ?_
        refine Hs.run0 300 (fun _ => by kernel_rfl) ?_
        refine Hs.any [3, 5, 1010] (by kernel_rfl) ?_
        refine Hs.run0 300 (fun _ => by kernel_rfl) ?_
        refine Hs.takeLdC (rd := [3, 5]) 4 3 cPG_len (E := 33) (E' := 31) (g := g) (i := done.length) (q := 1) (cap := c) (nl := done.length + 1) (l := done ++ [cur]) (x := cur) (.slice cur.A cur.ops.length cur.c) (by kernel_rfl) (by kernel_rfl) (by kernel_rfl) hn (by simp) rfl (by kernel_rfl) ?_
        refine Hs.run1 300 (fun _ => by kernel_rfl) fun b6 => ?_
        refine Hs.app (cf := cOP) (c := 1) (ty := 31) 4 elemPo cur.ops [o] cur.ops.length 1 rfl rfl cOP_one cOP_len (A := cur.A) (B := some ⟨b6, 0, none⟩) (cap := cur.c) (by kernel_rfl) (by kernel_rfl) (by kernel_rfl) (fun w' H => H.rdB (cf := cOP) (wr := true) (T := 36) (cs := o.sc) (gs := [o]) 6 (by kernel_rfl) rfl) (by unfold maxLen; omega) (by rw [elemPo_by]; omega) fun A7 c7 h7 => ?_
        refine Hs.run0 300 (fun _ => by kernel_rfl) ?_
        refine Hs.stc 3 (E := 33) (size := 2) (g := g) (cap := c) (nl := done.length + 1) (vs := (done ++ [cur]).flatMap cPG) (by kernel_rfl) (0 + done.length * 2 + 1) (by omega) (v := .slice A7 (cur.ops.length + 1) c7) rfl rfl (E' := 31) (by kernel_rfl) (by kernel_rfl) (by kernel_rfl) ?_
        rw [splice_last done cur A7 c7 o done.length rfl]
        refine Hs.run0 300 (fun _ => by kernel_rfl) ?_
        refine Hs.goto [] [0, 1, 2, 3, 4] (StP.hp ⟨done, ⟨cur.n, A7, c7, cur.ops ++ [o]⟩, true, some ⟨g, 0, none⟩, c, done.length + 1, cur.ops.length + 1⟩) [] (by kernel_rfl) (by decide) (by kernel_rfl) (by kernel_rfl) (fun _ => (by kernel_rfl)) (fun u2 => ?_)
        refine Hs.rEnd ⟨rfl, rfl⟩ fun w H => ?_
        refine endP (z' := ⟨done, ⟨cur.n, A7, c7, cur.ops ++ [o]⟩, true, some ⟨g, 0, none⟩, c, done.length + 1, cur.ops.length + 1⟩) (fp' := fp) K J (e.trans ?_) ⟨?_, ?_, ?_, ?_⟩ (C1.imp (fun h => ⟨h, J.st W1 _ C1.only.size h.2.2 J.dn⟩) ?_) J.st (fun y hy => .inl hy) (fun y hy => hy) H
        · show _ = some ((done ++ [_]).map PG.m)
          rw [List.map_append]
          rfl
        · show (done ++ [_]).length = done.length + 1
          rw [List.length_append]
          rfl
        · show (cur.ops ++ [o]).length = cur.ops.length + 1
          rw [List.length_append]
          rfl
        · show done.length + 1 ≤ pre.length + 1
          omega
        · show cur.ops.length + 1 ≤ pre.length + 1
          omega
        · intro w w' h1 h2 h3
          exact ⟨QP.st (k := ⟨b2, b3, b4, Bs, l, r, u⟩) w w' h1 h2 h3.1, J.st w w' h1 (fun q hq => h2 q (by simp [hq])) h3.2⟩
end Go.Proofs.YtmmcamkmglpgiaaGreatDoor

namespace Go.Proofs.YtmmcamkmglpgiaaGreatDoor
open Go.RowKit Go.Shelf
set_option linter.all false
set_option maxRecDepth 100000
/-- The programs that a text says, in memory, or what is wrong. -/
def ParseQ (o : Option (List PM) × Int) (w : World) (e : Ending) (w' : World) : Prop := match o with
  | (some l, i) => ∃ (ps : List PG) (A : Option Addr) (c : Nat) (fp : List Nat), e = .returned (.tuple #[.slice A ps.length c, .int .i64 i]) ∧ ps.map PG.m = l ∧ Pgs w' A c ps ∧ StX fp (fun w => Pgs w A c ps) ∧ ∀ x ∈ fp, w.heap.size ≤ x ∧ x < w'.heap.size
  | (none, i) => e = .returned (.tuple #[.slice none 0 0, .int .i64 i])
abbrev ParseR (s : List UInt8) (w : World) : Ending → World → Prop := fun e w' => ParseQ (parseM s) w e w' ∧ Only [] w w'
theorem parse_lines {s : List UInt8} (h1 : s.length ≤ 262144) (h2 : (!s.isEmpty && !endsN s) = false) : parseM s = (match foldP [] (linesB s) with
    | none => (none, 4)
    | some l => if checkM l = 0 then (some l, 0) else (none, checkM l)) := by
  unfold parseM
  rw [decide_eq_false (by omega : ¬ 262144 < s.length), h2]
  all_goals rfl
theorem progs_st {z : StP} {fp : List Nat} (hst : StX fp (fun w => ∀ x ∈ z.done, PgOk w x)) (A : Option Addr) (c : Nat) : StX ((A.map (·.block)).toList ++ ((z.cur.A.map (·.block)).toList ++ fp)) (fun w => Pgs w A c z.outs) := fun w w' hs he h => by
  refine ⟨fun h0 => ?_, h.le, h.max, ?_⟩
  · obtain ⟨b, off, e, hlt, hc⟩ := h.rd h0
    refine ⟨b, off, e, Nat.lt_of_lt_of_le hlt hs, fun j u hj => ?_⟩
    exact (World.cell?_of_block (w := w) (he b (by rw [e]; simp))).trans (hc j u hj)
  · have h4 := h.all
    intro y hy
    unfold StP.outs outsP at hy h4
    split at hy
    · rename_i e
      rw [e] at h4
      dsimp only at h4
      rcases List.mem_append.1 hy with h5 | h5
      · exact hst w w' hs (fun q hq => he q (by simp [hq])) (fun y hy => h4 y (List.mem_append.2 (.inl hy))) y h5
      · have h6 := h4 y hy
        rw [List.mem_singleton.1 h5] at h6 ⊢
        exact pgOk_st z.cur w w' hs (fun q hq => he q (List.mem_append.2 (.inr (List.mem_append.2 (.inl hq))))) h6
    · cases hy
section
variable {w : World} {k : KP} {s : List UInt8}
/-- A round has returned. -/
theorem badEndP (hp : parseM s = (match foldP [] (linesB s) with
    | none => (none, 4)
    | some l => if checkM l = 0 then (some l, 0) else (none, checkM l))) (K : k.ok w) {W' : World} (J : JX w k s W') (o : Obj) : Goes Tryz.prog 17 (ParseR s w) (.code .ret :: rfP.k) (fr (Tryz.f17).ntmps [k.b2, k.b3, k.b4, 0, 0, 0] (.dfr [⟨.collected k.r, #[]⟩] (slP k.Bs k.u))) (W'.putObj k.l o) := by
  obtain ⟨b2, b3, b4, Bs, l, r, u⟩ := k
  have e : fr (Tryz.f17).ntmps [b2, b3, b4, 0, 0, 0] (.dfr [⟨.collected r, #[]⟩] (slP Bs u)) = fr (Tryz.f17).ntmps [b2, b3, b4] (.dfr [⟨.collected r, #[]⟩] (slP Bs u)) := fr_app (Tryz.f17).ntmps [0, 0, 0] (β := [b2, b3, b4]) (by kernel_rfl)
  show Goes Tryz.prog 17 (ParseR s w) (.code .ret :: rfP.k) (fr (Tryz.f17).ntmps [b2, b3, b4, 0, 0, 0] (.dfr [⟨.collected r, #[]⟩] (slP Bs u))) (W'.putObj l o)
  rw [e]
  have hput : ∀ (y : Nat), y ≠ l → (W'.putObj l o).heap[y]? = W'.heap[y]? := fun y hy => World.putObj_heap_other hy
  have g2 : Blk (W'.putObj l o) b2 29 [.slice none 0 0] := (hput _ J.n2.2).trans J.h2
  have g3 : Blk (W'.putObj l o) b3 27 [.int .i64 4] := (hput _ J.n3.2).trans J.h3
  have H0 : Mem (W'.putObj l o) [b2, b3] [b2, b3, b4] [.b true 29 [.v (.slice none 0 0)], .b true 27 [.v (.int .i64 4)], .no] (W'.putObj l o) := Mem.startW [b2, b3] rfl (by simp [bks, HB.blk, J.ne]) ⟨g2, g3, trivial, trivial⟩ (fun y hy => by simpa [wrN, HB.wr, HB.blk] using hy)
  have key : Hs Tryz.prog ⟨17, none⟩ (ParseR s w) (Tryz.f17).ntmps (W'.putObj l o) [b2, b3] [b2, b3, b4] ⟨.no, .code .ret :: rfP.k, .dfr [⟨.collected r, #[]⟩] (slP Bs u), [.b true 29 [.v (.slice none 0 0)], .b true 27 [.v (.int .i64 4)], .no]⟩ := by
    refine Hs.retCB (r := r) (v := .tuple #[.slice none 0 0, .int .i64 4]) Tryz.func17 rfl rfl (by kernel_rfl) rfl (fun h => ?_) ((hput _ (Ne.symm K.lr)).trans J.hr) fun w1 w2 H e _ => ?_
    · simp only [List.mem_cons, List.not_mem_nil, or_false] at h
      rcases h with h | h
      · exact J.n2.1 h.symm
      · exact J.n3.1 h.symm
    · subst e
      refine ⟨?_, ?_⟩
      · rw [hp, J.fold]
        rfl
      · refine Only.trans (Only.trans (Only.trans J.only (only_put W' l o) (fun y hy => .inr ?_)) H.only (fun y hy => .inr ?_)) (only_put w1 r _) (fun y hy => .inr ?_)
        · simp only [List.mem_singleton] at hy; subst hy; exact K.l
        · simp only [List.mem_cons, List.not_mem_nil, or_false] at hy
          rcases hy with h | h
          · subst h; exact J.o2
          · subst h; exact J.o3
        · simp only [List.mem_singleton] at hy; subst hy; exact K.r
  exact key.go _ H0 (by kernel_rfl)
/-- All lines have come. -/
theorem goodEndP (hp : parseM s = (match foldP [] (linesB s) with
    | none => (none, 4)
    | some l => if checkM l = 0 then (some l, 0) else (none, checkM l))) (K : k.ok w) {z : StP} {fp bs : List Nat} {W' : World} (J : JP w k z fp (linesB s) bs W') (o : Obj) : Goes Tryz.prog 17 (ParseR s w) rfP.k (fr (Tryz.f17).ntmps [k.b2, k.b3, k.b4, 0, 0, 0] (.dfr [⟨.collected k.r, #[]⟩] (slP k.Bs k.u))) (W'.putObj k.l o) := by
  obtain ⟨b2, b3, b4, Bs, l, r, u⟩ := k
  obtain ⟨done, cur, has, A, c, n, j⟩ := z
  obtain ⟨hn, hj, hnm, hjm⟩ := J.ok
  dsimp only [StP.outs] at hn hj hnm hjm
  have e : fr (Tryz.f17).ntmps [b2, b3, b4, 0, 0, 0] (.dfr [⟨.collected r, #[]⟩] (slP Bs u)) = fr (Tryz.f17).ntmps (btP b2 b3 b4) (.dfr [⟨.collected r, #[]⟩] (slP Bs u)) := fr_app (Tryz.f17).ntmps [0] (β := btP b2 b3 b4) (by kernel_rfl)
  show Goes Tryz.prog 17 (ParseR s w) rfP.k (fr (Tryz.f17).ntmps [b2, b3, b4, 0, 0, 0] (.dfr [⟨.collected r, #[]⟩] (slP Bs u))) (W'.putObj l o)
  rw [e]
  have hlW : l < W'.heap.size := (Array.getElem?_eq_some_iff.1 J.hl).1
  have hlbs : l ∉ bs := fun h => (J.far l (by simp [h])).1 rfl
  have hrbs : r ∉ bs := fun h => (J.far r (by simp [h])).2.1 rfl
  have hput : ∀ (y : Nat), y ≠ l → (W'.putObj l o).heap[y]? = W'.heap[y]? := fun y hy => World.putObj_heap_other hy
  have hM : Mem W' bs (btP b2 b3 b4) (hpP (outsP done cur has) n A c cur j) W' := J.mem
  have hOp := only_put W' l o
  have H0 : Mem (W'.putObj l o) bs (btP b2 b3 b4) (hpP (outsP done cur has) n A c cur j) (W'.putObj l o) := by
    have h1 := Mem.rebaseF hM hOp fun i h y h1 h2 hm => by
      obtain rfl := List.mem_singleton.1 hm
      have hw : h.wr = true := by
        have := List.all_eq_true.1 (hpP_ro (outsP done cur has) n A c cur j) h (List.mem_of_getElem? h1)
        cases h with
        | no => cases h2
        | _ => exact this
      rcases hM.own i h y h1 hw h2 with h3 | h3
      · exact hlbs h3
      · omega
    rwa [show wrN (btP b2 b3 b4) (hpP (outsP done cur has) n A c cur j) = bs from J.hb.symm] at h1
  have hP : ∀ (hp : List HB) (w1 : World), Mem (W'.putObj l o) bs (btP b2 b3 b4) hp w1 → hp[3]? = some (.s A c n 33 2 ((outsP done cur has).flatMap cPG)) → hp[4]? = some (.s cur.A cur.c j 36 4 (cur.ops.flatMap cOP)) → Pgs w1 A c (outsP done cur has) := by
    intro hp w1 H e3 e4
    have hO := H.only
    have h3 := Mem.rdX (cf := cPG) H 3 hn e3
    have h4 := Mem.capS (cf := cPG) H 3 hn e3
    have h5 := Mem.rdX (cf := cOP) H 4 hj e4
    have h6 := Mem.capS (cf := cOP) H 4 hj e4
    refine ⟨h3, by rw [hn]; exact h4.1, h4.2, fun y hy => ?_⟩
    cases has with
    | false => cases hy
    | true =>
      rcases List.mem_append.1 hy with h7 | h7
      · refine J.st W' w1 (Nat.le_trans hOp.size hO.size) (fun q hq => ?_) J.dn y h7
        have hf := J.far q (by simp [hq])
        exact (hO.block q (Nat.lt_of_lt_of_le hf.2.2.2.2 hOp.size) (J.ap q hq)).trans (hput q hf.1)
      · rw [List.mem_singleton.1 h7]
        exact ⟨h5, by rw [hj]; exact h6.1, h6.2⟩
  have hrW : (W'.putObj l o).heap[r]? = some (.deferred (some [])) := (hput _ (Ne.symm K.lr)).trans J.hr
  have hOE : ∀ {β : List Nat} {hp : List HB} {w1 : World}, Mem (W'.putObj l o) bs β hp w1 → ∀ ob, Only [] w (w1.putObj r ob) := fun H ob => by
    refine Only.trans (Only.trans (Only.trans J.only hOp (fun y hy => .inr ?_)) H.only (fun y hy => .inr ?_)) (only_put _ r ob) (fun y hy => .inr ?_)
    · simp only [List.mem_singleton] at hy; subst hy; exact K.l
    · exact (J.far y (by simp [hy])).2.2.2.1
    · simp only [List.mem_singleton] at hy; subst hy; exact K.r
  have key : Hs Tryz.prog ⟨17, none⟩ (ParseR s w) (Tryz.f17).ntmps (W'.putObj l o) bs (btP b2 b3 b4) ⟨.no, rfP.k, .dfr [⟨.collected r, #[]⟩] (slP Bs u), hpP (outsP done cur has) n A c cur j⟩ := by
    have hC : ∀ w', Mem (W'.putObj l o) bs (btP b2 b3 b4) (hpP (outsP done cur has) n A c cur j) w' → Calls Tryz.prog 9 #[.slice A n c] w' fun e w2 => e = .returned (.int .i64 (checkM ((outsP done cur has).map PG.m))) ∧ Only [] w' w2 := fun w' H => by
      have := check_any (outsP done cur has) A c w' (hP _ w' H rfl rfl)
      rwa [hn] at this
    refine Hs.run0 300 (fun _ => by kernel_rfl) ?_
    refine Hs.callV (v := .int .i64 (checkM ((outsP done cur has).map PG.m))) (fun w' H => hC w' (Eq.mp (by kernel_rfl) H)) (by kernel_rfl) ?_
    refine Hs.run0 300 (fun _ => by kernel_rfl) ?_
    refine Hs.cond (!decide (checkM ((outsP done cur has).map PG.m) = 0)) (by kernel_rfl) (fun h1 => ?_) (fun h1 => ?_)
    · refine Hs.run0 300 (fun _ => by kernel_rfl) ?_
      refine Hs.retCB (r := r) (v := .tuple #[.slice none 0 0, .int .i64 (checkM ((outsP done cur has).map PG.m))]) Tryz.func17 (by kernel_rfl) (by kernel_rfl) (by kernel_rfl) (by kernel_rfl) hrbs hrW fun w1 w2 H e _ => ?_
      subst e
      refine ⟨?_, hOE H _⟩
      rw [hp, J.fold]
      have h1 : ¬ checkM ((outsP done cur has).map PG.m) = 0 := by simpa using h1
      show ParseQ (if checkM ((outsP done cur has).map PG.m) = 0 then _ else _) _ _ _
      rw [if_neg h1]
      rfl
    · refine Hs.run0 300 (fun _ => by kernel_rfl) ?_
      refine Hs.retCB (r := r) (v := .tuple #[.slice A n c, .int .i64 0]) Tryz.func17 (by kernel_rfl) (by kernel_rfl) (by kernel_rfl) (by kernel_rfl) hrbs hrW fun w1 w2 H e _ => ?_
      subst e
      refine ⟨?_, hOE H _⟩
      rw [hp, J.fold]
      have h1 : checkM ((outsP done cur has).map PG.m) = 0 := by simpa using h1
      show ParseQ (if checkM ((outsP done cur has).map PG.m) = 0 then _ else _) _ _ _
      rw [if_pos h1]
      have hst := progs_st (z := ⟨done, cur, has, A, c, n, j⟩) J.st A c
      have hq := hP _ w1 H (by kernel_rfl) (by kernel_rfl)
      have hsz : w1.heap.size ≤ (w1.putObj r (.deferred none)).heap.size := (only_put w1 r _).size
      have hW1 := Nat.le_trans hOp.size H.only.size
      have hmem : ∀ y ∈ (A.map (·.block)).toList ++ ((cur.A.map (·.block)).toList ++ fp), y ∈ bs ++ fp := fun y hy => by
        rcases List.mem_append.1 hy with h | h
        · refine List.mem_append.2 (.inl ?_)
          rw [J.hb]
          have h : A.map (·.block) = some y := Option.mem_toList.1 h
          exact wrN_mem.2 ⟨3, .s A c n 33 2 ((outsP done cur has).flatMap cPG), 0, rfl, rfl, rfl, h⟩
        rcases List.mem_append.1 h with h | h
        · refine List.mem_append.2 (.inl ?_)
          rw [J.hb]
          have h : cur.A.map (·.block) = some y := Option.mem_toList.1 h
          exact wrN_mem.2 ⟨4, .s cur.A cur.c j 36 4 (cur.ops.flatMap cOP), 0, rfl, rfl, rfl, h⟩
        · exact List.mem_append.2 (.inr h)
      refine ⟨outsP done cur has, A, c, _, by rw [hn], rfl, hst _ _ hsz (fun y hy => World.putObj_heap_other (J.far y (hmem y hy)).2.1) hq, hst, fun y hy => ?_⟩
      have hf := J.far y (hmem y hy)
      exact ⟨hf.2.2.2.1, by omega⟩
  exact key.go _ H0 (by kernel_rfl)
end
end Go.Proofs.YtmmcamkmglpgiaaGreatDoor

namespace Go.Proofs.YtmmcamkmglpgiaaGreatDoor
open Go.RowKit Go.Shelf
set_option linter.all false
set_option maxRecDepth 100000
def qP (Bs : Nat) (s : List UInt8) : HB := .q true (some ⟨Bs, 0, none⟩) (fun w => Blk w Bs 9 [.string (strL s)]) (fun w w' h1 _ h => (h1 _ rfl).trans h)
def z0P : StP := ⟨[], ⟨⟨#[]⟩, none, 0, []⟩, false, none, 0, 0, 0⟩
theorem jsP {w : World} {k : KP} (K : k.ok w) {pre : List (List UInt8)} {bs : List Nat} {A B : World} (J : JQ w k pre bs A) (hB : k.Bs ∉ bs) (O : Only [k.Bs] A B) : JQ w k pre bs B := by
  obtain ⟨z, fp, J⟩ := J
  have hlW : k.l < A.heap.size := (Array.getElem?_eq_some_iff.1 J.hl).1
  have hrW : k.r < A.heap.size := (Array.getElem?_eq_some_iff.1 J.hr).1
  have hM := J.mem
  have hm : Mem B bs k.bt z.hp B := by
    have h1 := Mem.rebaseF hM O fun i h y h1 h2 hm => by
      obtain rfl := List.mem_singleton.1 hm
      have hw : h.wr = true := by
        have := List.all_eq_true.1 (hpP_ro z.outs z.n z.A z.c z.cur z.j) h (List.mem_of_getElem? h1)
        cases h with
        | no => cases h2
        | _ => exact this
      rcases hM.own i h _ h1 hw h2 with h3 | h3
      · exact hB h3
      · have := J.BW; omega
    rwa [← J.hb] at h1
  refine ⟨z, fp, J.fold, J.ok, J.only.trans O (fun y hy => .inr (by simp at hy; subst hy; exact K.B)), J.hb, hm, J.st, J.st A B O.size (fun y hy => O.block y (J.far y (by simp [hy])).2.2.2.2 (by simp; exact (J.far y (by simp [hy])).2.2.1)) J.dn, ?_, ?_, fun y hy => ?_, J.ap, Nat.lt_of_lt_of_le J.BW O.size⟩
  · exact (O.block _ hlW (by simp; exact Ne.symm K.Bl)).trans J.hl
  · exact (O.block _ hrW (by simp; exact Ne.symm K.Br)).trans J.hr
  · have := J.far y hy
    exact ⟨this.1, this.2.1, this.2.2.1, this.2.2.2.1, Nat.lt_of_lt_of_le this.2.2.2.2 O.size⟩
theorem rangeP {s : List UInt8} {w : World} (hs : s.length ≤ 262144) (hS : SLib w) (hp : parseM s = (match foldP [] (linesB s) with
    | none => (none, 4)
    | some l => if checkM l = 0 then (some l, 0) else (none, checkM l))) (b2 b3 b4 Bs : Nat) (u : Nat → Value) : Hs Tryz.prog ⟨17, none⟩ (ParseR s w) (Tryz.f17).ntmps w [] [b2, b3, b4, 0, 0, 0] ⟨.no, rfP.todo, slP Bs u, z0P.hp ++ [qP Bs s]⟩ := by
  have hfr : ∀ ds, fr (Tryz.f17).ntmps [b2, b3, b4, 0, 0, 0] (.dfr ds (slP Bs u)) = fr (Tryz.f17).ntmps (btP b2 b3 b4) (.dfr ds (slP Bs u)) := fun ds => fr_app (Tryz.f17).ntmps [0] (β := btP b2 b3 b4) (by kernel_rfl)
  have hfr0 : fr (Tryz.f17).ntmps [b2, b3, b4, 0, 0, 0] (slP Bs u) = fr (Tryz.f17).ntmps (btP b2 b3 b4) (slP Bs u) := fr_app (Tryz.f17).ntmps [0] (β := btP b2 b3 b4) (by kernel_rfl)
  refine Hs.rangeF (g := rfP.g) (ps := rfP.ps) (assign := rfP.asg) (body := rfP.body) (k := rfP.k) (G := 52) (lb := #[.pointer (some ⟨Bs, 0, none⟩)]) (fn := Tryz.f52) ⟨rfl, rfl⟩ rfl (by kernel_rfl) Tryz.func52 (by kernel_rfl) fun w1 H => ?_
  have hB1 : Blk w1 Bs 9 [.string (strL s)] := Mem.atQ (A := some ⟨Bs, 0, none⟩) (Q := fun w => Blk w Bs 9 [.string (strL s)]) (st := fun w w' h1 _ h => (h1 _ rfl).trans h) H 5 rfl
  have hBn : w.heap.size ≤ Bs := by
    rcases H.own 5 (qP Bs s) Bs rfl rfl rfl with h | h
    · cases h
    · exact h
  have hBlt := hB1.lt
  have hO1 := H.only
  have hsz1 := hO1.size
  have K : KP.ok ⟨b2, b3, b4, Bs, w1.heap.size + 1, w1.heap.size, u⟩ w := ⟨by show w1.heap.size + 1 ≠ w1.heap.size; omega, by show Bs ≠ w1.heap.size + 1; omega, by show Bs ≠ w1.heap.size; omega, by show w.heap.size ≤ w1.heap.size + 1; omega, hsz1, hBn⟩
  let W0 : World := (w1.alloc (.deferred (some []))).alloc (.loop (KP.rc ⟨b2, b3, b4, Bs, w1.heap.size + 1, w1.heap.size, u⟩ .ready none))
  have hOW : Only [] w1 W0 := ((Only.refl [] w1).alloc _).alloc _
  have hszW : W0.heap.size = w1.heap.size + 2 := by simp [W0]
  have H5 : Mem w [] (btP b2 b3 b4) z0P.hp w1 := H.sub [0, 1, 2, 3, 4] (by decide) (by kernel_rfl)
  have H6 : Mem W0 (wrN (btP b2 b3 b4) z0P.hp) (btP b2 b3 b4) z0P.hp W0 := Mem.rebaseF H5 hOW (by simp)
  have hwr : ∀ y ∈ wrN (btP b2 b3 b4) z0P.hp, w.heap.size ≤ y ∧ y < w1.heap.size ∧ y ≠ Bs := fun y hy => by
    have h1 := H5.wrN_lt y hy
    obtain ⟨i, h, b, e1, e2, e3, e4⟩ := wrN_mem.1 hy
    refine ⟨?_, h1, fun e => ?_⟩
    · rcases H5.own i h y e1 e3 (by rw [nm_get e2]; exact e4) with h | h
      · cases h
      · exact h
    · have hi5 : i < 5 := (List.getElem?_eq_some_iff.1 e1).1
      have hn : nm [b2, b3, b4, 0, 0, 0] i = nm (btP b2 b3 b4) i := by
        have h3 : i = 0 ∨ i = 1 ∨ i = 2 ∨ i = 3 ∨ i = 4 := by omega
        rcases h3 with rfl | rfl | rfl | rfl | rfl <;> rfl
      have e5 : (z0P.hp ++ [qP Bs s])[i]? = some h := by rw [List.getElem?_append_left hi5]; exact e1
      have := H.inj i 5 h (qP Bs s) y e5 rfl (by rw [hn, nm_get e2]; exact e4) (by rw [e]; rfl)
      omega
  have J0 : JQ w ⟨b2, b3, b4, Bs, w1.heap.size + 1, w1.heap.size, u⟩ [] (wrN (btP b2 b3 b4) z0P.hp) W0 := by
    refine ⟨z0P, [], rfl, ⟨rfl, rfl, Nat.le_refl _, Nat.le_refl _⟩, hO1.trans hOW (by simp), rfl, H6, (fun _ _ _ _ _ => by intro y hy; cases hy), (by intro y hy; cases hy), ?_, ?_, fun y hy => ?_, by simp, by rw [hszW]; show Bs < _; omega⟩
    · exact (congrArg _ (by simp : w1.heap.size + 1 = (w1.alloc (.deferred (some []))).heap.size)).trans (heap_alloc_new (w1.alloc (.deferred (some []))) _)
    · refine (Below.heap_alloc _ _ _ (by simp)).trans (heap_alloc_new w1 _)
    · rw [List.append_nil] at hy
      have := hwr y hy
      rw [hszW]
      exact ⟨by show y ≠ w1.heap.size + 1; omega, by show y ≠ w1.heap.size; omega, this.2.2, this.1, by omega⟩
  have hBW : Blk W0 Bs 9 [.string (strL s)] := hB1.only hOW (by simp)
  refine ⟨fun W => ∃ bs, JQ w ⟨b2, b3, b4, Bs, w1.heap.size + 1, w1.heap.size, u⟩ (linesB s) bs W, JX w ⟨b2, b3, b4, Bs, w1.heap.size + 1, w1.heap.size, u⟩ s, ?_, ?_, ?_⟩
  · rw [show fr (Tryz.f17).ntmps [b2, b3, b4, 0, 0, 0] (SM.sl ⟨.no, rfP.todo, slP Bs u, z0P.hp ++ [qP Bs s]⟩) = fr (Tryz.f17).ntmps (btP b2 b3 b4) (slP Bs u) from hfr0]
    refine (lines_stops 1 (Nat.le_refl 1) (w1.heap.size + 1) Bs s (by omega) W0 (JQ w ⟨b2, b3, b4, Bs, w1.heap.size + 1, w1.heap.size, u⟩) (JX w ⟨b2, b3, b4, Bs, w1.heap.size + 1, w1.heap.size, u⟩ s) (wrN (btP b2 b3 b4) z0P.hp) (by rw [hBW.cell]; rfl) (hBW.frozen 0) (by omega) (fun h => (hwr Bs h).2.2 rfl) (fun pre bs A B J hb O => jsP K J hb O) (fun pre x bs W1 ht J => ?_) J0).mono ?_
    · obtain ⟨t, ht⟩ := ht
      obtain ⟨z, fp, J⟩ := J
      exact roundP hs hS K J ht
    · rintro e W' ⟨hv, ⟨bs, h, _⟩ | h⟩
      · exact ⟨hv, .inl ⟨bs, h⟩⟩
      · exact ⟨hv, .inr h⟩
  · rintro W' ⟨bs, z, fp, J⟩
    refine ⟨?_, ?_⟩
    · rw [show fr (Tryz.f17).ntmps [b2, b3, b4, 0, 0, 0] (SM.sl ⟨.no, rfP.todo, slP Bs u, z0P.hp ++ [qP Bs s]⟩) = fr (Tryz.f17).ntmps (btP b2 b3 b4) (slP Bs u) from hfr0]
      exact J.hl
    · exact goodEndP hp K J _
  · intro W' J
    refine ⟨?_, ?_⟩
    · rw [show fr (Tryz.f17).ntmps [b2, b3, b4, 0, 0, 0] (SM.sl ⟨.no, rfP.todo, slP Bs u, z0P.hp ++ [qP Bs s]⟩) = fr (Tryz.f17).ntmps (btP b2 b3 b4) (slP Bs u) from hfr0]
      exact J.hl
    · exact badEndP hp K J _
theorem textE_l (s : List UInt8) : textE (strL s) = !s.isEmpty := by
  unfold textE
  rw [str_cmp0]
theorem parse_any19 (s : List UInt8) (w : World) (hS : SLib w) : Calls Tryz.prog 17 #[.string (strL s)] w (ParseR s w) := by
  refine Hs.enter Tryz.func17 [] [] [] [.c (.v (.string (strL s)))] (Mem.start0 w) (by kernel_rfl) (by kernel_rfl) ?_
  refine Hs.run2 300 (fun _ => by kernel_rfl) fun b2 b3 => ?_
  refine Hs.condP ((262144 : Int) < ((strL s).size : Int)) (by kernel_rfl) (fun h1 => ?_) (fun h1 => ?_)
  · have h1 : (262144 : Int) < (s.length : Int) := h1
    have e : parseM s = (none, 6) := by
      unfold parseM
      rw [decide_eq_true (by omega : 262144 < s.length)]
    refine Hs.run0 300 (fun _ => by kernel_rfl) ?_
    exact Hs.ret (v := .tuple #[.slice none 0 0, .int .i64 6]) Tryz.func17 (by kernel_rfl) fun w' H => ⟨by rw [e]; rfl, H.only⟩
  · have h1 : ¬ (262144 : Int) < (s.length : Int) := h1
    have hs : s.length ≤ 262144 := by omega
    have fin : ∀ hb : (!s.isEmpty && !endsN s) = false, ∀ (b4 : Nat) (Bs : Nat) (u : Nat → Value), Hs Tryz.prog ⟨17, none⟩ (ParseR s w) (Tryz.f17).ntmps w [] [b2, b3, b4, 0, 0, 0] ⟨.no, rfP.todo, slP Bs u, z0P.hp ++ [qP Bs s]⟩ := fun hb b4 Bs u => rangeP hs hS (parse_lines hs hb) b2 b3 b4 Bs u
    refine Hs.run0 300 (fun _ => by kernel_rfl) ?_
    refine Hs.bool 17 (textE (strL s)) (by kernel_rfl) (fun h2 => ?_) (fun h2 => ?_)
    · refine Hs.rung0 [2] 300 (fun _ => by kernel_rfl) ?_
      refine Hs.callV (v := .bool (endsN s)) (fun w' H => suffix_any s (by omega) w') (by kernel_rfl) ?_
      refine Hs.rung0 [2] 300 (fun _ => by kernel_rfl) ?_
      refine Hs.cond (!endsN s) (by kernel_rfl) (fun h3 => ?_) (fun h3 => ?_)
      · have e : parseM s = (none, 4) := by
          rw [textE_l] at h2
          unfold parseM
          rw [decide_eq_false (by omega : ¬ 262144 < s.length), h2, h3]
          rfl
        refine Hs.run0 300 (fun _ => by kernel_rfl) ?_
        exact Hs.ret (v := .tuple #[.slice none 0 0, .int .i64 4]) Tryz.func17 (by kernel_rfl) fun w' H => ⟨by rw [e]; rfl, H.only⟩
      · have fin := fin (by rw [h3, Bool.and_false])
        refine Hs.run1 300 (fun _ => by kernel_rfl) fun b4 => ?_
        refine Hs.nilS 33 2 (by kernel_rfl) ?_ (by kernel_rfl)
        refine Hs.nilS 36 4 (by kernel_rfl) ?_ (by kernel_rfl)
        refine Hs.callQ (X := Nat) (fun b => some ⟨b, 0, none⟩) (fun b => .func (.func 52) #[] #[.pointer (some ⟨b, 0, none⟩)]) (fun b w => Blk w b 9 [.string (strL s)]) (fun b w w' h1 _ h => (h1 _ rfl).trans h) (fun w' H => lines_any s w') (by kernel_rfl) (by kernel_rfl) fun Bs => ?_
        refine Hs.run0 300 (fun _ => by kernel_rfl) ?_
        exact Hs.goto rfP.todo [0, 1, 2, 3, 4, 5] (z0P.hp ++ [qP Bs s]) [(2, .c (.p 0 0)), (3, .c (.p 1 0)), (4, .c (.p 2 0)), (23, .c (.v (.func (.func 52) #[] #[.pointer (some ⟨Bs, 0, none⟩)])))] (by kernel_rfl) (by decide) (by kernel_rfl) (by kernel_rfl) (fun _ => (by kernel_rfl)) (fun u => fin b4 Bs u)
    · have fin := fin (by rw [textE_l] at h2; rw [h2]; rfl)
      refine Hs.rung0 [2] 300 (fun _ => by kernel_rfl) ?_
      refine Hs.condF (by kernel_rfl) ?_
      refine Hs.run1 300 (fun _ => by kernel_rfl) fun b4 => ?_
      refine Hs.nilS 33 2 (by kernel_rfl) ?_ (by kernel_rfl)
      refine Hs.nilS 36 4 (by kernel_rfl) ?_ (by kernel_rfl)
      refine Hs.callQ (X := Nat) (fun b => some ⟨b, 0, none⟩) (fun b => .func (.func 52) #[] #[.pointer (some ⟨b, 0, none⟩)]) (fun b w => Blk w b 9 [.string (strL s)]) (fun b w w' h1 _ h => (h1 _ rfl).trans h) (fun w' H => lines_any s w') (by kernel_rfl) (by kernel_rfl) fun Bs => ?_
      refine Hs.run0 300 (fun _ => by kernel_rfl) ?_
      exact Hs.goto rfP.todo [0, 1, 2, 3, 4, 5] (z0P.hp ++ [qP Bs s]) [(2, .c (.p 0 0)), (3, .c (.p 1 0)), (4, .c (.p 2 0)), (23, .c (.v (.func (.func 52) #[] #[.pointer (some ⟨Bs, 0, none⟩)])))] (by kernel_rfl) (by decide) (by kernel_rfl) (by kernel_rfl) (fun _ => (by kernel_rfl)) (fun u => fin b4 Bs u)
end Go.Proofs.YtmmcamkmglpgiaaGreatDoor

namespace Go.Proofs.YtmmcamkmglpgiaaGreatDoor
open Go.RowKit Go.MapKept
set_option linter.all false
set_option maxRecDepth 100000
section
variable {P : Program} {f : FR} {R : Ending → World → Prop} {n : Nat} {w0 : World} {L : List Nat} {β : List Nat} {m : SM}
theorem Hs.minI {ts : Array TypeId} {ty : TypeId} {k k' : IntKind} (x y : Int) (hs : semOf n β m = some (valS (Builtin.min_ ts ty #[.int k x, .int k' y]))) (h : Hs P f R n w0 L β (m.put (dstOf m) (.c (.v (.int k (if y < x then y else x)))) m.hp)) : Hs P f R n w0 L β m :=
  Hs.opV (.c (.v (.int k (if y < x then y else x)))) hs rfl (fun w _ => run_min_int2 w ts ty k k' x y) h
variable {κ : Type} [DecidableEq κ] {ke : κ → Value}
/-- A call that turns a map of ours. -/
theorem Hs.callMp {X : Type} (k : Nat) {r : Nat} {es : List (κ × Value)} (es' : X → List (κ × Value)) (v : X → Value) (Q : X → Prop) {F : FuncId} {args : Array Value} (hk : m.hp[k]? = some (HB.mp ke r es)) (hC : ∀ w, Mem w0 L β m.hp w → Calls P F args w fun e w' => ∃ x, e = .returned (v x) ∧ Only [r] w w' ∧ MapM ke w' r (es' x) ∧ Q x) (hc : callOf P n β m = some (F, args)) (hrd : (rdOf m).contains k = false)
    (h : ∀ x, Q x → Hs P f R n w0 L β (m.put (dstOf m) (.c (.v (v x))) (m.hp.set k (HB.mp ke r (es' x))))) : Hs P f R n w0 L β m := by
  refine ⟨fun w H W => ?_⟩
  refine (Hs.call hc (fun w H => ?_)).go w H W
  refine Calls.mono (hC w H) ?_
  rintro e w' ⟨x, rfl, O, hM', hq⟩
  have hl : (HB.mp ke r (es' x)).lies w' β (nm β k) := ⟨hM', fun a ha => by injection ha with ha; subst ha; exact hM'.lt⟩
  refine ⟨[], .c (.v (v x)), m.hp.set k (HB.mp ke r (es' x)), rfl, by rw [List.append_nil]; exact H.swap k hk O (fun x hx => by simp only [List.mem_singleton] at hx; subst hx; rfl) rfl hl (fun x hx => .inl hx), ?_, fun j hj b hb => ?_, by rw [List.append_nil]; exact h x hq⟩
  · simp only [SV.wf, SC.wf, Bool.true_and, Bool.and_eq_true, Nat.ble_eq, List.length_set]
    exact ⟨Nat.le_refl _, set_wf (SM.wf_hp W) rfl⟩
  · rw [List.getElem?_set, if_neg (fun e => by
      subst e
      simp at hrd
      exact hrd hj)]
    exact hb
end
theorem keyW : KeyT Tryz.prog 59 3 3 (.int .i64 0) (kI .i64) := ⟨(by kernel_rfl), fun w => by kernel_rfl, ⟨.int .i64, by kernel_rfl, fun _ => rfl⟩, kI_inj⟩
def stepW (g : Int → Int) (o : OP9) (n : Int) : Int := if (1073741824 : Int) < (if o.k = 5 ∨ o.k = 6 then n + 1 + g o.a else n + 1) then 1073741824 else (if o.k = 5 ∨ o.k = 6 then n + 1 + g o.a else n + 1)
/-- How many operations a run makes of these. -/
def opsW (g : Int → Int) : List OP9 → Int → Int
  | [], n => n
  | o :: l, n => if o.k = 6 ∨ o.k = 1 then stepW g o n else opsW g l (stepW g o n)
theorem opsW_cons (g : Int → Int) (o : OP9) (l : List OP9) (n : Int) : opsW g (o :: l) n = if o.k = 6 ∨ o.k = 1 then stepW g o n else opsW g l (stepW g o n) := rfl
theorem stepW_bd {g : Int → Int} {o : OP9} {n : Int} (h0 : 0 ≤ n) (hg : 0 ≤ g o.a) : 0 ≤ stepW g o n ∧ stepW g o n ≤ 1073741824 := by
  unfold stepW
  split <;> split <;> omega
structure WorkOk (l : List PM) (W : Nat → Int) : Prop where
  eq : ∀ (k : Nat) (m : PM), l[k]? = some m → W k = opsW (fun a => W a.toNat) m.2 0
  bd : ∀ k : Nat, 0 ≤ W k ∧ W k ≤ 1073741824
  fw : ∀ (k : Nat) (m : PM) (o : OP9), l[k]? = some m → o ∈ m.2 → (o.k = 5 ∨ o.k = 6) → (k : Int) < o.a ∧ o.a < l.length
def EsOk (W : Nat → Int) (es : List (Int × Value)) : Prop := ∀ (k : Nat) v, lookM (k : Int) es = some v → v = .int .i64 (W k)
theorem EsOk.set {W : Nat → Int} {es : List (Int × Value)} (h : EsOk W es) (k : Nat) : EsOk W (setE (k : Int) (.int .i64 (W k)) es) := fun j v hj => by
  rw [lookM_setE] at hj
  split at hj
  · rename_i e
    injection hj with hj
    rw [← hj, show k = j by omega]
  · exact h j v hj
theorem map_apart {α : Type} {cf : α → List Value} {w w' : World} {A : Option Addr} {l : List α} {rm : Nat} {es : List (Int × Value)} (hne : ∀ x, 0 < (cf x).length) (h : RdX cf w A l) (hM : MapM (kI .i64) w rm es) (O : Only [rm] w w') : RdX cf w' A l :=
  h.far O fun a ha h0 hm => by
    obtain ⟨b, off, e, hlt, hc⟩ := h h0
    rw [ha] at e
    injection e with e
    subst e
    obtain rfl := List.mem_singleton.1 hm
    obtain ⟨x, t, rfl⟩ : ∃ x t, l = x :: t := by cases l with | nil => cases h0 | cons x t => exact ⟨x, t, rfl⟩
    have h1 := hne x
    obtain ⟨u, t2, hu⟩ : ∃ u t2, cf x = u :: t2 := by cases hx : cf x with | nil => rw [hx] at h1; cases h1 | cons u t2 => exact ⟨u, t2, rfl⟩
    have h2 := hc 0 u (by rw [List.flatMap_cons, hu]; rfl)
    obtain ⟨a, clock, hb, _⟩ := hM
    unfold World.cell? at h2
    dsimp only at h2 hb
    rw [hb] at h2
    cases h2
theorem pgs_map {w w' : World} {A : Option Addr} {c : Nat} {ps : List PG} {rm : Nat} {es : List (Int × Value)} (h : Pgs w A c ps) (hM : MapM (kI .i64) w rm es) (O : Only [rm] w w') : Pgs w' A c ps :=
  ⟨map_apart (fun x => by rw [cPG_len]; omega) h.rd hM O, h.le, h.max, fun x hx => ⟨map_apart (fun x => by rw [cOP_len]; omega) (h.all x hx).1 hM O, (h.all x hx).2⟩⟩
theorem wrap_nextW {n : Int} (h0 : 0 ≤ n) (h1 : n ≤ 1073741824) : Value.int .i64 (IntKind.i64.wrap (n + 1)) = (SV.c (.v (.int .i64 (n + 1)))).den [] := by
  rw [IntWalk.i64_in _ (by omega)]; rfl
theorem wrap_addW {n g : Int} (h0 : 0 ≤ n) (h1 : n ≤ 1073741824) (h2 : 0 ≤ g) (h3 : g ≤ 1073741824) : Value.int .i64 (IntKind.i64.wrap (n + 1 + g)) = (SV.c (.v (.int .i64 (n + 1 + g)))).den [] := by
  rw [IntWalk.i64_in _ (by omega)]; rfl
abbrev WkR (W : Nat → Int) (k : Nat) (rm : Nat) (w : World) : Ending → World → Prop := fun e w' => ∃ es', e = .returned (.int .i64 (W k)) ∧ Only [rm] w w' ∧ MapM (kI .i64) w' rm es' ∧ EsOk W es'
set_option maxHeartbeats 4000000 in
theorem work1_any (ps : List PG) (A : Option Addr) (c : Nat) (W : Nat → Int) (hW : WorkOk (ps.map PG.m) W) (hlen : ps.length ≤ 1000) (hops : ∀ x ∈ ps, x.ops.length ≤ 1000) (b5 b2 b6 rm : Nat) (hnd : [b5, b2, b6, rm].Nodup) : ∀ (d k : Nat), ps.length - k ≤ d → k < ps.length → ∀ (w : World) (es : List (Int × Value)), Blk w b5 59 [.map (some rm)] → Blk w b2 29 [.slice A ps.length c] → Blk w b6 60 [.func (.func 20) #[] #[.pointer (some ⟨b5, 0, none⟩), .pointer (some ⟨b2, 0, none⟩), .pointer (some ⟨b6, 0, none⟩)]] → Pgs w A c ps → MapM (kI .i64) w rm es → EsOk W es → Calls Tryz.prog 20 #[.int .i64 k, .pointer (some ⟨b5, 0, none⟩), .pointer (some ⟨b2, 0, none⟩), .pointer (some ⟨b6, 0, none⟩)] w (WkR W k rm w) := by
  intro d
  induction d with
  | zero => intro k h1 h2; omega
  | succ d ihd =>
    intro k hkd hk w es h5 h2 h6 hP hM hes
    obtain ⟨x, hx⟩ : ∃ x, ps[k]? = some x := ⟨_, List.getElem?_eq_getElem hk⟩
    have hxm : x ∈ ps := List.mem_of_getElem? hx
    have hxo := hP.all x hxm
    have hol := hops x hxm
    have hWe : W k = opsW (fun a => W a.toNat) x.ops 0 := hW.eq k x.m (by rw [List.getElem?_map, hx]; rfl)
    have hfw : ∀ o ∈ x.ops, (o.k = 5 ∨ o.k = 6) → (k : Int) < o.a ∧ o.a < ps.length := fun o ho h => by
      have := hW.fw k x.m o (by rw [List.getElem?_map, hx]; rfl) ho h
      rwa [List.length_map] at this
    obtain ⟨ab, aoff, hA, _, _⟩ := hP.rd (by omega)
    subst hA
    have hrm := hM.lt
    have H0 : Mem w [rm] [b5, b2, b6, 0] [.b false 59 [.v (.map (some rm))], .b false 29 [.v (.slice (some ⟨ab, aoff, none⟩) ps.length c)], .b false 60 [.v (.func (.func 20) #[] #[.pointer (some ⟨b5, 0, none⟩), .pointer (some ⟨b2, 0, none⟩), .pointer (some ⟨b6, 0, none⟩)])], HB.mp (kI .i64) rm es] w := by
      refine Mem.startW [rm] rfl ?_ ⟨h5, h2, h6, ⟨hM, fun a ha => by injection ha with ha; subst ha; exact hrm⟩, trivial⟩ (fun y hy => by simpa [wrN, HB.wr, HB.blk, HB.mp] using hy)
      simpa [bks, HB.blk, HB.mp] using hnd
    have hPw : ∀ {β : List Nat} {hp : List HB} {w' : World}, Mem w [rm] β hp w' → Pgs w' (some ⟨ab, aoff, none⟩) c ps := fun H => pgs_map hP hM H.only
    have J : ∀ (e i : Nat), x.ops.length - i = e → i ≤ x.ops.length → ∀ (n : Int) (es1 : List (Int × Value)), 0 ≤ n → n ≤ 1073741824 → W k = opsW (fun a => W a.toNat) (x.ops.drop i) n → EsOk W es1 → ∀ (u : Nat → Value), Hs Tryz.prog ⟨20, none⟩ (WkR W k rm w) (Tryz.f20).ntmps w [rm] [b5, b2, b6, 0] ⟨.no, loopAt Tryz.f20 0, pins [(0, .c (.v (.int .i64 k))), (1, .c (.p 0 0)), (2, .c (.p 1 0)), (3, .c (.p 2 0)), (8, .c (.v (.int .i64 n))), (23, .c (.v (.slice x.A x.ops.length x.c))), (24, .c (.v (.int .i64 x.ops.length))), (25, .c (.v (.int .i64 i)))] (.vals u), [.b false 59 [.v (.map (some rm))], .b false 29 [.v (.slice (some ⟨ab, aoff, none⟩) ps.length c)], .b false 60 [.v (.func (.func 20) #[] #[.pointer (some ⟨b5, 0, none⟩), .pointer (some ⟨b2, 0, none⟩), .pointer (some ⟨b6, 0, none⟩)])], HB.mp (kI .i64) rm es1]⟩ := by
      intro e
      induction e with
      | zero =>
        intro i hi hil n es1 h0 h1 hop hes1 u
        obtain rfl : i = x.ops.length := by omega
        rw [List.drop_length] at hop
        have hop : W k = n := hop
        refine Hs.run0 300 (fun _ => by kernel_rfl) ?_
        refine Hs.condP ((x.ops.length : Int) < (x.ops.length : Int)) (by kernel_rfl) (fun h => by omega) (fun _ => ?_)
        refine Hs.run0 300 (fun _ => by kernel_rfl) ?_
        refine Hs.setM 3 keyW (k : Int) (.int .i64 (n)) (es := es1) (r := rm) (by kernel_rfl) (by kernel_rfl) (by kernel_rfl) ?_
        refine Hs.run0 300 (fun _ => by kernel_rfl) ?_
        exact Hs.ret (v := .int .i64 (n)) Tryz.func20 (by kernel_rfl) fun w' H => ⟨setE (k : Int) (.int .i64 (n)) es1, by rw [hop], H.only, Mem.mapM (ke := kI .i64) (r := rm) (es := setE (k : Int) (.int .i64 (n)) es1) H 3 (by kernel_rfl), by rw [← hop]; exact hes1.set k⟩
      | succ e ihe =>
        intro i hi hil n es1 h0 h1 hop hes1 u
        have hil2 : i < x.ops.length := by omega
        obtain ⟨o, ho⟩ : ∃ o, x.ops[i]? = some o := ⟨_, List.getElem?_eq_getElem hil2⟩
        have hom : o ∈ x.ops := List.mem_of_getElem? ho
        have hdr : x.ops.drop i = o :: x.ops.drop (i + 1) := by
          rw [List.drop_eq_getElem_cons hil2]
          rw [List.getElem?_eq_getElem hil2] at ho
          injection ho with ho
          rw [ho]
        rw [hdr, opsW_cons] at hop
        obtain ⟨ob, ooff, hO, _, _⟩ := hxo.1 (by omega)
        have hih := fun n es1 h0 h1 hop hes1 u => ihe (i + 1) (by omega) (by omega) n es1 h0 h1 hop hes1 u
        clear ihe
        have hor : ∀ {β : List Nat} {hp : List HB} {w' : World}, Mem w [rm] β hp w' → RdX cOP w' (some ⟨ob, ooff, none⟩) x.ops := fun H => by rw [← hO]; exact ((hPw H).all x hxm).1
        rw [hO] at hih ⊢
        obtain ⟨oq, oa, oy, ot⟩ := o
        refine Hs.run0 300 (fun _ => by kernel_rfl) ?_
        refine Hs.condP ((i : Int) < (x.ops.length : Int)) (by kernel_rfl) (fun _ => ?_) (fun h => by omega)
        refine Hs.run0 300 (fun _ => by kernel_rfl) ?_
        refine Hs.idx (b := ob) (off := ooff) (len := x.ops.length) (c := x.c) (i := i) elemPo hil2 (by kernel_rfl) ?_
        refine Hs.ldx (cf := cOP) (size := 4) (E := 36) (b := ob) (off := ooff) (i := i) (l := x.ops) (x := ⟨oq, oa, oy, ot⟩) cOP_len (.g [.v (.int .i64 oq), .v (.int .i64 oa), .v (.int .i64 oy), .v (.string ot)]) (by kernel_rfl) (fun w' H => hor H) ho (by kernel_rfl) (by kernel_rfl) rfl (by kernel_rfl) ?_
        refine Hs.run1 300 (fun _ => by kernel_rfl) fun b7 => ?_
        refine Hs.slot 8 (.c (.v (.int .i64 (n + 1)))) rfl ((by kernel_rfl : _ = Value.int .i64 (IntKind.i64.wrap (n + 1))).trans (wrap_nextW h0 h1)) ?_
        by_cases h5 : oq = 5
        · subst h5
          rw [if_neg (by simp)] at hop
          obtain ⟨a', rfl⟩ : ∃ a' : Nat, oa = a' := ⟨oa.toNat, by have := (hfw _ hom (by simp)).1; dsimp only at this; omega⟩
          have hf := hfw _ hom (by simp)
          dsimp only at hf
          have hba := hW.bd a'
          have eS : stepW (fun a => W a.toNat) ⟨5, (a' : Int), oy, ot⟩ n = (if (1073741824 : Int) < n + 1 + W a' then 1073741824 else n + 1 + W a') := by unfold stepW; simp
          have hbd := stepW_bd (g := (fun a => W a.toNat)) (o := ⟨5, (a' : Int), oy, ot⟩) h0 hba.1
          have hC : ∀ w', Mem w [rm] ([b5, b2, b6, 0] ++ [b7]) [.b false 59 [.v (.map (some rm))], .b false 29 [.v (.slice (some ⟨ab, aoff, none⟩) ps.length c)], .b false 60 [.v (.func (.func 20) #[] #[.pointer (some ⟨b5, 0, none⟩), .pointer (some ⟨b2, 0, none⟩), .pointer (some ⟨b6, 0, none⟩)])], HB.mp (kI .i64) rm es1, .b true 36 [.v (.int .i64 5), .v (.int .i64 (a' : Int)), .v (.int .i64 oy), .v (.string ot)]] w' → Calls Tryz.prog 20 #[.int .i64 (a' : Int), .pointer (some ⟨b5, 0, none⟩), .pointer (some ⟨b2, 0, none⟩), .pointer (some ⟨b6, 0, none⟩)] w' fun e w2 => ∃ es', e = .returned (.int .i64 (W a')) ∧ Only [rm] w' w2 ∧ MapM (kI .i64) w2 rm es' ∧ EsOk W es' := fun w' H => ihd a' (by omega) (by omega) w' es1 (H.at 0 rfl) (H.at 1 rfl) (H.at 2 rfl) (hPw H) (Mem.mapM (ke := kI .i64) (r := rm) (es := es1) H 3 rfl) hes1
          refine Hs.rung0 [3] 300 (fun _ => by kernel_rfl) ?_
          refine Hs.condT (by kernel_rfl) ?_
          refine Hs.run0 300 (fun _ => by kernel_rfl) ?_
          refine Hs.callMp 3 (X := List (Int × Value)) (r := rm) (es := es1) (fun es' => es') (fun _ => .int .i64 (W a')) (EsOk W) (by kernel_rfl) (fun w' H => hC w' (Eq.mp (by kernel_rfl) H)) (by kernel_rfl) (by kernel_rfl) fun es2 hes2 => ?_
          refine Hs.run0 300 (fun _ => by kernel_rfl) ?_
          refine Hs.slot 8 (.c (.v (.int .i64 (stepW (fun a => W a.toNat) ⟨5, (a' : Int), oy, ot⟩ n)))) rfl ((by kernel_rfl : _ = Value.int .i64 (if (1073741824 : Int) < IntKind.i64.wrap (n + 1 + W a') then 1073741824 else IntKind.i64.wrap (n + 1 + W a'))).trans (by rw [IntWalk.i64_in _ (by omega), ← eS]; rfl)) ?_
          refine Hs.rung0 [3] 300 (fun _ => by kernel_rfl) ?_
          refine Hs.condF (by kernel_rfl) ?_
          refine Hs.run0 300 (fun _ => by kernel_rfl) ?_
          refine Hs.slot 25 (.c (.v (.int .i64 (i + 1 : Nat)))) rfl ((by kernel_rfl : _ = Value.int .i64 (IntKind.i64.wrap ((i : Int) + 1))).trans (wrap_nextK (by omega))) ?_
          refine Hs.loop (by kernel_rfl) ?_
          exact Hs.goto (loopAt Tryz.f20 0) [0, 1, 2, 3] [.b false 59 [.v (.map (some rm))], .b false 29 [.v (.slice (some ⟨ab, aoff, none⟩) ps.length c)], .b false 60 [.v (.func (.func 20) #[] #[.pointer (some ⟨b5, 0, none⟩), .pointer (some ⟨b2, 0, none⟩), .pointer (some ⟨b6, 0, none⟩)])], HB.mp (kI .i64) rm es2] [(0, .c (.v (.int .i64 k))), (1, .c (.p 0 0)), (2, .c (.p 1 0)), (3, .c (.p 2 0)), (8, .c (.v (.int .i64 (stepW (fun a => W a.toNat) ⟨5, (a' : Int), oy, ot⟩ n)))), (23, .c (.v (.slice (some ⟨ob, ooff, none⟩) x.ops.length x.c))), (24, .c (.v (.int .i64 x.ops.length))), (25, .c (.v (.int .i64 (i + 1 : Nat))))] (by kernel_rfl) (by decide) (by kernel_rfl) (by kernel_rfl) (fun _ => (by kernel_rfl)) (fun u => hih (stepW (fun a => W a.toNat) ⟨5, (a' : Int), oy, ot⟩ n) es2 hbd.1 hbd.2 hop hes2 u)
        · by_cases h6 : oq = 6
          · subst h6
            rw [if_pos (by simp)] at hop
            obtain ⟨a', rfl⟩ : ∃ a' : Nat, oa = a' := ⟨oa.toNat, by have := (hfw _ hom (by simp)).1; dsimp only at this; omega⟩
            have hf := hfw _ hom (by simp)
            dsimp only at hf
            have hba := hW.bd a'
            have eS : stepW (fun a => W a.toNat) ⟨6, (a' : Int), oy, ot⟩ n = (if (1073741824 : Int) < n + 1 + W a' then 1073741824 else n + 1 + W a') := by unfold stepW; simp
            have hbd := stepW_bd (g := (fun a => W a.toNat)) (o := ⟨6, (a' : Int), oy, ot⟩) h0 hba.1
            have hC : ∀ w', Mem w [rm] ([b5, b2, b6, 0] ++ [b7]) [.b false 59 [.v (.map (some rm))], .b false 29 [.v (.slice (some ⟨ab, aoff, none⟩) ps.length c)], .b false 60 [.v (.func (.func 20) #[] #[.pointer (some ⟨b5, 0, none⟩), .pointer (some ⟨b2, 0, none⟩), .pointer (some ⟨b6, 0, none⟩)])], HB.mp (kI .i64) rm es1, .b true 36 [.v (.int .i64 6), .v (.int .i64 (a' : Int)), .v (.int .i64 oy), .v (.string ot)]] w' → Calls Tryz.prog 20 #[.int .i64 (a' : Int), .pointer (some ⟨b5, 0, none⟩), .pointer (some ⟨b2, 0, none⟩), .pointer (some ⟨b6, 0, none⟩)] w' fun e w2 => ∃ es', e = .returned (.int .i64 (W a')) ∧ Only [rm] w' w2 ∧ MapM (kI .i64) w2 rm es' ∧ EsOk W es' := fun w' H => ihd a' (by omega) (by omega) w' es1 (H.at 0 rfl) (H.at 1 rfl) (H.at 2 rfl) (hPw H) (Mem.mapM (ke := kI .i64) (r := rm) (es := es1) H 3 rfl) hes1
            refine Hs.rung0 [3] 300 (fun _ => by kernel_rfl) ?_
            refine Hs.condT (by kernel_rfl) ?_
            refine Hs.run0 300 (fun _ => by kernel_rfl) ?_
            refine Hs.callMp 3 (X := List (Int × Value)) (r := rm) (es := es1) (fun es' => es') (fun _ => .int .i64 (W a')) (EsOk W) (by kernel_rfl) (fun w' H => hC w' (Eq.mp (by kernel_rfl) H)) (by kernel_rfl) (by kernel_rfl) fun es2 hes2 => ?_
            refine Hs.run0 300 (fun _ => by kernel_rfl) ?_
            refine Hs.slot 8 (.c (.v (.int .i64 (stepW (fun a => W a.toNat) ⟨6, (a' : Int), oy, ot⟩ n)))) rfl ((by kernel_rfl : _ = Value.int .i64 (if (1073741824 : Int) < IntKind.i64.wrap (n + 1 + W a') then 1073741824 else IntKind.i64.wrap (n + 1 + W a'))).trans (by rw [IntWalk.i64_in _ (by omega), ← eS]; rfl)) ?_
            refine Hs.rung0 [3] 300 (fun _ => by kernel_rfl) ?_
            refine Hs.condT (by kernel_rfl) ?_
            refine Hs.run0 300 (fun _ => by kernel_rfl) ?_
            refine Hs.setM 3 keyW (k : Int) (.int .i64 (stepW (fun a => W a.toNat) ⟨6, (a' : Int), oy, ot⟩ n)) (es := es2) (r := rm) (by kernel_rfl) (by kernel_rfl) (by kernel_rfl) ?_
            refine Hs.run0 300 (fun _ => by kernel_rfl) ?_
            exact Hs.ret (v := .int .i64 (stepW (fun a => W a.toNat) ⟨6, (a' : Int), oy, ot⟩ n)) Tryz.func20 (by kernel_rfl) fun w' H => ⟨setE (k : Int) (.int .i64 (stepW (fun a => W a.toNat) ⟨6, (a' : Int), oy, ot⟩ n)) es2, by rw [hop], H.only, Mem.mapM (ke := kI .i64) (r := rm) (es := setE (k : Int) (.int .i64 (stepW (fun a => W a.toNat) ⟨6, (a' : Int), oy, ot⟩ n)) es2) H 3 (by kernel_rfl), by rw [← hop]; exact hes2.set k⟩
          · have eS : stepW (fun a => W a.toNat) ⟨oq, oa, oy, ot⟩ n = (if (1073741824 : Int) < n + 1 then 1073741824 else n + 1) := by unfold stepW; simp [h5, h6]
            have hbd : 0 ≤ stepW (fun a => W a.toNat) ⟨oq, oa, oy, ot⟩ n ∧ stepW (fun a => W a.toNat) ⟨oq, oa, oy, ot⟩ n ≤ 1073741824 := by rw [eS]; split <;> omega
            refine Hs.bool 34 (decide (oq = 5)) (by kernel_rfl) (fun h => absurd (of_decide_eq_true h) h5) (fun _ => ?_)
            refine Hs.rung0 [3] 300 (fun _ => by kernel_rfl) ?_
            refine Hs.cond (decide (oq = 6)) (by kernel_rfl) (fun h => absurd (of_decide_eq_true h) h6) (fun _ => ?_)
            refine Hs.run0 300 (fun _ => by kernel_rfl) ?_
            refine Hs.slot 8 (.c (.v (.int .i64 (stepW (fun a => W a.toNat) ⟨oq, oa, oy, ot⟩ n)))) rfl ((by kernel_rfl : _ = Value.int .i64 (if (1073741824 : Int) < n + 1 then 1073741824 else n + 1)).trans (by rw [← eS]; rfl)) ?_
            refine Hs.bool 50 (decide (oq = 6)) (by kernel_rfl) (fun h => absurd (of_decide_eq_true h) h6) (fun _ => ?_)
            refine Hs.rung0 [3] 300 (fun _ => by kernel_rfl) ?_
            refine Hs.cond (decide (oq = 1)) (by kernel_rfl) (fun h => ?_) (fun h => ?_)
            · have h := of_decide_eq_true h
              rw [if_pos (.inr h)] at hop
              refine Hs.run0 300 (fun _ => by kernel_rfl) ?_
              refine Hs.setM 3 keyW (k : Int) (.int .i64 (stepW (fun a => W a.toNat) ⟨oq, oa, oy, ot⟩ n)) (es := es1) (r := rm) (by kernel_rfl) (by kernel_rfl) (by kernel_rfl) ?_
              refine Hs.run0 300 (fun _ => by kernel_rfl) ?_
              exact Hs.ret (v := .int .i64 (stepW (fun a => W a.toNat) ⟨oq, oa, oy, ot⟩ n)) Tryz.func20 (by kernel_rfl) fun w' H => ⟨setE (k : Int) (.int .i64 (stepW (fun a => W a.toNat) ⟨oq, oa, oy, ot⟩ n)) es1, by rw [hop], H.only, Mem.mapM (ke := kI .i64) (r := rm) (es := setE (k : Int) (.int .i64 (stepW (fun a => W a.toNat) ⟨oq, oa, oy, ot⟩ n)) es1) H 3 (by kernel_rfl), by rw [← hop]; exact hes1.set k⟩
            · have h := of_decide_eq_false h
              rw [if_neg (by simp [h6, h])] at hop
              refine Hs.run0 300 (fun _ => by kernel_rfl) ?_
              refine Hs.slot 25 (.c (.v (.int .i64 (i + 1 : Nat)))) rfl ((by kernel_rfl : _ = Value.int .i64 (IntKind.i64.wrap ((i : Int) + 1))).trans (wrap_nextK (by omega))) ?_
              refine Hs.loop (by kernel_rfl) ?_
              exact Hs.goto (loopAt Tryz.f20 0) [0, 1, 2, 3] [.b false 59 [.v (.map (some rm))], .b false 29 [.v (.slice (some ⟨ab, aoff, none⟩) ps.length c)], .b false 60 [.v (.func (.func 20) #[] #[.pointer (some ⟨b5, 0, none⟩), .pointer (some ⟨b2, 0, none⟩), .pointer (some ⟨b6, 0, none⟩)])], HB.mp (kI .i64) rm es1] [(0, .c (.v (.int .i64 k))), (1, .c (.p 0 0)), (2, .c (.p 1 0)), (3, .c (.p 2 0)), (8, .c (.v (.int .i64 (stepW (fun a => W a.toNat) ⟨oq, oa, oy, ot⟩ n)))), (23, .c (.v (.slice (some ⟨ob, ooff, none⟩) x.ops.length x.c))), (24, .c (.v (.int .i64 x.ops.length))), (25, .c (.v (.int .i64 (i + 1 : Nat))))] (by kernel_rfl) (by decide) (by kernel_rfl) (by kernel_rfl) (fun _ => (by kernel_rfl)) (fun u => hih (stepW (fun a => W a.toNat) ⟨oq, oa, oy, ot⟩ n) es1 hbd.1 hbd.2 hop hes1 u)
    refine Hs.enter Tryz.func20 [rm] [b5, b2, b6, 0] _ [.c (.v (.int .i64 k)), .c (.p 0 0), .c (.p 1 0), .c (.p 2 0)] H0 (by kernel_rfl) (by kernel_rfl) ?_
    refine Hs.run0 300 (fun _ => by kernel_rfl) ?_
    cases hl : lookM (k : Int) es with
    | some v =>
      obtain rfl := hes k v hl
      refine Hs.getM (r := rm) (es := es) keyW (k : Int) true (.tuple #[.int .i64 (W k), .bool true]) (by rw [hl]; rfl) (by kernel_rfl) (fun w' H => Mem.mapM (ke := kI .i64) (r := rm) (es := es) H 3 (by kernel_rfl)) ?_
      refine Hs.run0 300 (fun _ => by kernel_rfl) ?_
      refine Hs.condT (by kernel_rfl) ?_
      refine Hs.run0 300 (fun _ => by kernel_rfl) ?_
      exact Hs.ret (v := .int .i64 (W k)) Tryz.func20 (by kernel_rfl) fun w' H => ⟨es, rfl, H.only, Mem.mapM (ke := kI .i64) (r := rm) (es := es) H 3 (by kernel_rfl), hes⟩
    | none =>
      refine Hs.getM (r := rm) (es := es) keyW (k : Int) true (.tuple #[.int .i64 0, .bool false]) (by rw [hl]; rfl) (by kernel_rfl) (fun w' H => Mem.mapM (ke := kI .i64) (r := rm) (es := es) H 3 (by kernel_rfl)) ?_
      refine Hs.run0 300 (fun _ => by kernel_rfl) ?_
      refine Hs.condF (by kernel_rfl) ?_
      refine Hs.run0 300 (fun _ => by kernel_rfl) ?_
      refine Hs.idx (b := ab) (off := aoff) (len := ps.length) (c := c) (i := k) elemPr hk (by kernel_rfl) ?_
      refine Hs.run0 300 (fun _ => by kernel_rfl) ?_
      refine Hs.ldc (E' := 31) (b := ab) (off := aoff + k * 2 + 1) (.slice x.A x.ops.length x.c) (by kernel_rfl) (fun w' H => rdX_cell cPG_len (hPw H).rd hx (j := 1) rfl) (by kernel_rfl) ?_
      refine Hs.run0 300 (fun _ => by kernel_rfl) ?_
      refine Hs.loop (by kernel_rfl) ?_
      exact Hs.goto (loopAt Tryz.f20 0) [0, 1, 2, 3] [.b false 59 [.v (.map (some rm))], .b false 29 [.v (.slice (some ⟨ab, aoff, none⟩) ps.length c)], .b false 60 [.v (.func (.func 20) #[] #[.pointer (some ⟨b5, 0, none⟩), .pointer (some ⟨b2, 0, none⟩), .pointer (some ⟨b6, 0, none⟩)])], HB.mp (kI .i64) rm es] [(0, .c (.v (.int .i64 k))), (1, .c (.p 0 0)), (2, .c (.p 1 0)), (3, .c (.p 2 0)), (8, .c (.v (.int .i64 (0 : Int)))), (23, .c (.v (.slice x.A x.ops.length x.c))), (24, .c (.v (.int .i64 x.ops.length))), (25, .c (.v (.int .i64 (0 : Nat))))] (by kernel_rfl) (by decide) (by kernel_rfl) (by kernel_rfl) (fun _ => (by kernel_rfl)) (fun u => J x.ops.length 0 (by omega) (by omega) 0 es (Int.le_refl 0) (by omega) (by rw [List.drop_zero]; exact hWe) hes u)
end Go.Proofs.YtmmcamkmglpgiaaGreatDoor
