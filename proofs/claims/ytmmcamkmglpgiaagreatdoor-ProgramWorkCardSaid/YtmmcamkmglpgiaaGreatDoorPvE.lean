/- Layer 19: Work; for all programs; no condition but lengths · Layer 19: the document's examples; no condition · Layer 19: the examples, walked; no condition but what the library's variables hold · Layer 19: an operation in front of a program, in plain words; no condition · Layer 19: programs handed to the program, as a row of the caller's own; for all programs; the lengths are small · Layer 19: how much work an operation in front makes, walked; for all programs whose lengths are small · Layer 19: the law of an operation in front, walked; for all programs whose lengths are small · Layer 19: the law of Work at an argument of one byte; no condition · The frame of a law whose row lists tables, which its walk wants: if the call returns true and leaves all memory that was there as it was, then the law's row holds; the walk is told the reach and the world's shape; no condition. -/
import Derived.Test.YtmmcamkmglpgiaaGreatDoorPvD
import Derived.Test.YtmmcamkmglpgiaaGreatDoorEngZ
import Derived.Test.YtmmcamkmglpgiaaGreatDoorPvA
import Derived.Test.YtmmcamkmglpgiaaGreatDoorEngQ
import Derived.Test.YtmmcamkmglpgiaaGreatDoorPsA
import Derived.Test.YtmmcamkmglpgiaaGreatDoorOpn
import Derived.HandedShaped
import Derived.Shelf.Vars
import Derived.Lay
import Derived.LaidLaws
import Derived.SevenTiedAt
namespace Go.Proofs.YtmmcamkmglpgiaaGreatDoor
open Go.RowKit Go.MapKept
set_option linter.all false
set_option maxRecDepth 100000
theorem check_len {l : List PM} (h : checkM l = 0) : 1 ≤ l.length ∧ l.length ≤ 32 := by
  unfold checkM at h
  cases hw : withinB (l.length : Int) 1 32 with
  | false => rw [hw] at h; cases h
  | true =>
    have : (1 : Int) ≤ (l.length : Int) ∧ (l.length : Int) ≤ 32 := by simpa [withinB] using hw
    omega
theorem check_wrongs {l : List PM} (h : checkM l = 0) : wrongs l.length l 0 = 0 ∧ dupM [] (l.map Prod.fst) = 0 := by
  have hl := check_len h
  unfold checkM at h
  cases hw : withinB (l.length : Int) 1 32 with
  | false => rw [hw] at h; cases h
  | true =>
    rw [hw] at h
    dsimp only at h
    by_cases h2 : wrongs l.length l 0 = 0
    · rw [if_pos h2] at h; exact ⟨h2, h⟩
    · rw [if_neg h2] at h; exact absurd h h2
theorem wrongs_all {q : Int} : ∀ {l : List PM} {i : Nat}, wrongs q l i = 0 → ∀ (k : Nat) (m : PM), l[k]? = some m → wrongM m ((i + k : Nat) : Int) q = 0
  | [], i, _, k, m, hk => by simp at hk
  | a :: l, i, h, 0, m, hk => by
    simp at hk; subst hk
    rw [wrongs_cons] at h
    by_cases h2 : wrongM a i q = 0
    · exact h2
    · rw [if_neg h2] at h; exact absurd h h2
  | a :: l, i, h, k + 1, m, hk => by
    rw [wrongs_cons] at h
    by_cases h2 : wrongM a i q = 0
    · rw [if_pos h2] at h
      have := wrongs_all h k m (by simpa using hk)
      rwa [show i + 1 + k = i + (k + 1) by omega] at this
    · rw [if_neg h2] at h; exact absurd h h2
theorem wrongM_ok {m : PM} {p q : Int} (h : wrongM m p q = 0) : nmB m.1 = true ∧ m.2.length ≤ 64 ∧ ∀ o ∈ m.2, rightB o p q = true := by
  unfold wrongM at h
  cases h1 : nmB m.1 with
  | false => rw [h1] at h; cases h
  | true =>
    rw [h1] at h
    dsimp only at h
    by_cases h2 : (64 : Int) < m.2.length
    · rw [if_pos h2] at h; cases h
    · rw [if_neg h2] at h
      cases h3 : badOps m.2 p q with
      | true => rw [h3] at h; cases h
      | false =>
        refine ⟨rfl, by omega, fun o ho => ?_⟩
        unfold badOps at h3
        have := List.any_eq_false.1 h3 o ho
        simpa using this
theorem check_prog {l : List PM} (h : checkM l = 0) {k : Nat} {m : PM} (hk : l[k]? = some m) : nmB m.1 = true ∧ m.2.length ≤ 64 ∧ ∀ o ∈ m.2, rightB o k l.length = true := by
  have := wrongs_all (check_wrongs h).1 k m hk
  rw [Nat.zero_add] at this
  exact wrongM_ok this
theorem right_later {o : OP9} {p q : Int} (h : rightB o p q = true) (hk : o.k = 5 ∨ o.k = 6) : laterB p q o.a = true := by
  unfold rightB restB at h
  simp only [Bool.and_eq_true] at h
  have h2 := h.2.2.2.2
  rcases hk with e | e
  · rw [e] at h2; exact h2
  · rw [e] at h2; exact h2
def workF (l : List PM) : Nat → Nat → Int
  | 0, _ => 0
  | d + 1, k => match l[k]? with
    | none => 0
    | some m => opsW (fun a => workF l d a.toNat) m.2 0
theorem opsW_congr {g g' : Int → Int} : ∀ (ops : List OP9) (n : Int), (∀ o ∈ ops, (o.k = 5 ∨ o.k = 6) → g o.a = g' o.a) → opsW g ops n = opsW g' ops n
  | [], n, _ => rfl
  | o :: l, n, h => by
    have e : stepW g o n = stepW g' o n := by
      unfold stepW
      by_cases h5 : o.k = 5 ∨ o.k = 6
      · rw [h o (by simp) h5]
      · simp only [if_neg h5]
    rw [opsW_cons, opsW_cons, e, opsW_congr l (stepW g' o n) (fun o ho => h o (by simp [ho]))]
theorem opsW_bd {g : Int → Int} (hg : ∀ a, 0 ≤ g a) : ∀ (ops : List OP9) (n : Int), 0 ≤ n → n ≤ 1073741824 → 0 ≤ opsW g ops n ∧ opsW g ops n ≤ 1073741824
  | [], n, h0, h1 => ⟨h0, h1⟩
  | o :: l, n, h0, h1 => by
    have h2 := stepW_bd (g := g) (o := o) h0 (hg o.a)
    rw [opsW_cons]
    split
    · exact h2
    · exact opsW_bd hg l _ h2.1 h2.2
theorem workF_bd (l : List PM) : ∀ (d k : Nat), 0 ≤ workF l d k ∧ workF l d k ≤ 1073741824
  | 0, k => ⟨Int.le_refl _, (by decide : (0 : Int) ≤ 1073741824)⟩
  | d + 1, k => by
    unfold workF
    split
    · exact ⟨Int.le_refl _, by decide⟩
    · exact opsW_bd (fun a => (workF_bd l d a.toNat).1) _ _ (Int.le_refl _) (by decide)
def Fwd (l : List PM) : Prop := ∀ (k : Nat) (m : PM) (o : OP9), l[k]? = some m → o ∈ m.2 → (o.k = 5 ∨ o.k = 6) → (k : Int) < o.a ∧ o.a < l.length
theorem workF_fuel {l : List PM} (hf : Fwd l) : ∀ (d1 d2 k : Nat), l.length - k ≤ d1 → l.length - k ≤ d2 → k < l.length → workF l d1 k = workF l d2 k
  | 0, d2, k, h1, h2, h3 => by omega
  | d1 + 1, 0, k, h1, h2, h3 => by omega
  | d1 + 1, d2 + 1, k, h1, h2, h3 => by
    unfold workF
    cases hk : l[k]? with
    | none => rfl
    | some m =>
      dsimp only
      refine opsW_congr _ _ fun o ho h5 => ?_
      have := hf k m o hk ho h5
      exact workF_fuel hf d1 d2 o.a.toNat (by omega) (by omega) (by omega)
def workW (l : List PM) (k : Nat) : Int := workF l (l.length - k) k
theorem workW_ok {l : List PM} (hf : Fwd l) : WorkOk l (workW l) := by
  refine ⟨fun k m hk => ?_, fun k => workF_bd l _ k, hf⟩
  have hkl := (List.getElem?_eq_some_iff.1 hk).1
  obtain ⟨d, hd⟩ : ∃ d, l.length - k = d + 1 := ⟨l.length - k - 1, by omega⟩
  show workF l (l.length - k) k = _
  rw [hd]
  unfold workF
  rw [hk]
  dsimp only
  refine opsW_congr _ _ fun o ho h5 => ?_
  have := hf k m o hk ho h5
  exact workF_fuel hf d _ o.a.toNat (by omega) (Nat.le_refl _) (by omega)
theorem check_fwd {l : List PM} (h : checkM l = 0) : Fwd l := fun k m o hk ho h5 => by
  have := right_later ((check_prog h hk).2.2 o ho) h5
  have : (k : Int) < o.a ∧ o.a < (l.length : Int) := by simpa [laterB] using this
  exact this
/-- How many operations a run of a program makes at most. -/
def workM (l : List PM) (i : Int) : Int := if checkM l = 0 ∧ 0 ≤ i ∧ i < l.length then workW l i.toNat else 0
set_option maxHeartbeats 1000000 in
theorem work_any19 (ps : List PG) (A : Option Addr) (c : Nat) (i : Int) (w : World) (h : Pgs w A c ps) : Calls Tryz.prog 11 #[.slice A ps.length c, .int .i64 i] w fun e w' => e = .returned (.int .i64 (workM (ps.map PG.m) i)) ∧ Only [] w w' := by
  refine Hs.enter Tryz.func11 [] [] [] [.c (.v (.slice A ps.length c)), .c (.v (.int .i64 i))] (Mem.start0 w) (by kernel_rfl) (by kernel_rfl) ?_
  refine Hs.run1 300 (fun _ => by kernel_rfl) fun b2 => ?_
  refine Hs.callV (v := .int .i64 (checkM (ps.map PG.m))) (fun w' H => check_any ps A c w' (h.only H.only)) (by kernel_rfl) ?_
  refine Hs.run0 300 (fun _ => by kernel_rfl) ?_
  refine Hs.bool 10 (!decide (checkM (ps.map PG.m) = 0)) (by kernel_rfl) (fun h1 => ?_) (fun h1 => ?_)
  · have h1 : ¬ checkM (ps.map PG.m) = 0 := by simpa using h1
    refine Hs.rung0 [3, 7] 300 (fun _ => by kernel_rfl) ?_
    refine Hs.condT (by kernel_rfl) ?_
    refine Hs.run0 300 (fun _ => by kernel_rfl) ?_
    exact Hs.ret (v := .int .i64 0) Tryz.func11 (by kernel_rfl) fun w' H => ⟨by unfold workM; rw [if_neg (fun h => h1 h.1)], H.only⟩
  · have h1 : checkM (ps.map PG.m) = 0 := by simpa using h1
    refine Hs.rung0 [3] 300 (fun _ => by kernel_rfl) ?_
    refine Hs.bool 14 (decide (i < 0)) (by kernel_rfl) (fun h2 => ?_) (fun h2 => ?_)
    · have h2 := of_decide_eq_true h2
      refine Hs.rung0 [3, 7] 300 (fun _ => by kernel_rfl) ?_
      refine Hs.condT (by kernel_rfl) ?_
      refine Hs.run0 300 (fun _ => by kernel_rfl) ?_
      exact Hs.ret (v := .int .i64 0) Tryz.func11 (by kernel_rfl) fun w' H => ⟨by unfold workM; rw [if_neg (fun h => by omega)], H.only⟩
    · have h2 := of_decide_eq_false h2
      refine Hs.rung0 [3, 7] 300 (fun _ => by kernel_rfl) ?_
      refine Hs.cond (decide ((ps.length : Int) ≤ i)) (by kernel_rfl) (fun h3 => ?_) (fun h3 => ?_)
      · have h3 := of_decide_eq_true h3
        refine Hs.run0 300 (fun _ => by kernel_rfl) ?_
        exact Hs.ret (v := .int .i64 0) Tryz.func11 (by kernel_rfl) fun w' H => ⟨by unfold workM; rw [if_neg (fun h => by rw [List.length_map] at h; omega)], H.only⟩
      · have h3 := of_decide_eq_false h3
        obtain ⟨i, rfl⟩ : ∃ j : Nat, i = j := ⟨i.toNat, by omega⟩
        have hl := check_len h1
        rw [List.length_map] at hl
        have hops : ∀ x ∈ ps, x.ops.length ≤ 1000 := fun x hx => by
          obtain ⟨k, hk⟩ := List.mem_iff_getElem?.1 hx
          have := (check_prog h1 (k := k) (m := x.m) (by rw [List.getElem?_map, hk]; rfl)).2.1
          have : x.ops.length ≤ 64 := this
          omega
        have eW : workM (ps.map PG.m) i = workW (ps.map PG.m) i := by
          unfold workM
          rw [if_pos ⟨h1, by omega, by rw [List.length_map]; omega⟩, Int.toNat_natCast]
        rw [eW]
        have hC : ∀ rm b5 b6 w', Mem w [] ([] ++ [b2] ++ [rm] ++ [b5, b6]) [.b true 29 [.v (.slice A ps.length c)], HB.mp (kI .i64) rm [], .b true 59 [.v (.map (some rm))], .b true 60 [.v (.func (.func 20) #[] #[.pointer (some ⟨b5, 0, none⟩), .pointer (some ⟨b2, 0, none⟩), .pointer (some ⟨b6, 0, none⟩)])]] w' → Calls Tryz.prog 20 #[.int .i64 (i : Int), .pointer (some ⟨b5, 0, none⟩), .pointer (some ⟨b2, 0, none⟩), .pointer (some ⟨b6, 0, none⟩)] w' fun e w2 => ∃ es', e = .returned (.int .i64 (workW (ps.map PG.m) i)) ∧ Only [rm] w' w2 ∧ MapM (kI .i64) w2 rm es' ∧ EsOk (workW (ps.map PG.m)) es' := fun rm b5 b6 w' H => by
          have hnd : [b2, rm, b5, b6].Nodup := (Mem.bks H rfl).1
          have hnd2 : [b5, b2, b6, rm].Nodup := by
            simp only [List.nodup_cons, List.mem_cons, List.not_mem_nil, or_false, not_or, not_false_eq_true, List.nodup_nil, and_true] at hnd ⊢
            obtain ⟨⟨q1, q2, q3⟩, ⟨q4, q5⟩, q6⟩ := hnd
            exact ⟨⟨Ne.symm q2, q6, Ne.symm q4⟩, ⟨q3, q1⟩, Ne.symm q5⟩
          exact work1_any ps A c (workW (ps.map PG.m)) (workW_ok (check_fwd h1)) (by omega) hops b5 b2 b6 rm hnd2 ps.length i (by omega) (by omega) w' [] (H.at 2 rfl) (H.at 0 rfl) (H.at 3 rfl) (h.only H.only) (Mem.mapM (ke := kI .i64) (r := rm) (es := []) H 1 rfl) (fun j v hj => by cases hj)
        refine Hs.run0 300 (fun _ => by kernel_rfl) ?_
        refine Hs.mkM (T := 59) (kI .i64) (by kernel_rfl) (by kernel_rfl) fun rm => ?_
        refine Hs.run2 300 (fun _ => by kernel_rfl) fun b5 b6 => ?_
        refine Hs.callMp 1 (X := List (Int × Value)) (r := rm) (es := []) (fun es' => es') (fun _ => .int .i64 (workW (ps.map PG.m) i)) (EsOk (workW (ps.map PG.m))) (by kernel_rfl) (fun w' H => hC rm b5 b6 w' (Eq.mp (by kernel_rfl) H)) (by kernel_rfl) (by kernel_rfl) fun es2 _ => ?_
        refine Hs.run0 300 (fun _ => by kernel_rfl) ?_
        exact Hs.ret (v := .int .i64 (workW (ps.map PG.m) i)) Tryz.func11 (by kernel_rfl) fun w' H => ⟨rfl, H.only⟩
end Go.Proofs.YtmmcamkmglpgiaaGreatDoor

namespace Go.Proofs.YtmmcamkmglpgiaaGreatDoor
open Go.RowKit Go.MapKept
set_option linter.all false
set_option maxRecDepth 100000
def t19a : List UInt8 := [112, 114, 111, 103, 32, 97, 10, 111, 117, 116, 32, 104, 105, 92, 48, 97, 10, 101, 120, 105, 116, 32, 51, 10]
def t19b : List UInt8 := [112, 114, 111, 103, 32, 97, 10, 102, 111, 114, 107, 32, 48, 10]
def l19a : List PM := [(strL [97], [⟨2, 0, 0, strL [104, 105, 10]⟩, ⟨1, 3, 0, strL []⟩])]
def l19b : List PM := [(strL [97], [⟨5, 0, 0, strL []⟩])]
theorem fold_a : foldP [] (linesB t19a) = some l19a := by kernel_rfl
theorem fold_b : foldP [] (linesB t19b) = some l19b := by kernel_rfl
theorem check_a : checkM l19a = 0 := by kernel_rfl
theorem check_b : checkM l19b = 2 := by kernel_rfl
theorem work_a : workM l19a 0 = 2 := by kernel_rfl
theorem parse_a : parseM t19a = (some l19a, 0) := by
  rw [parse_lines (by decide) (by kernel_rfl), fold_a]
  show (if checkM l19a = 0 then (some l19a, (0 : Int)) else (none, checkM l19a)) = _
  rw [if_pos check_a]
theorem parse_b : parseM t19b = (none, 2) := by
  rw [parse_lines (by decide) (by kernel_rfl), fold_b]
  show (if checkM l19b = 0 then (some l19b, (0 : Int)) else (none, checkM l19b)) = _
  rw [check_b]
  rfl
end Go.Proofs.YtmmcamkmglpgiaaGreatDoor

namespace Go.Proofs.YtmmcamkmglpgiaaGreatDoor
open Go.RowKit Go.MapKept
set_option linter.all false
set_option maxRecDepth 100000
abbrev PsQ (l : List PM) (z : PX) (w : World) : Prop := Pgs w z.1 z.2.1 z.2.2 ∧ z.2.2.map PG.m = l
theorem parse_new (s : List UInt8) (w : World) (hS : SLib w) {l : List PM} {i : Int} (h : parseM s = (some l, i)) : Calls Tryz.prog 17 #[.string (strL s)] w (NewX w (fun z : PX => .tuple #[.slice z.1 l.length z.2.1, .int .i64 i]) (PsQ l)) := by
  refine (parse_any19 s w hS).mono ?_
  rintro e w' ⟨hq, O⟩
  rw [h] at hq
  obtain ⟨ps, A, c, fp, rfl, hm, hP, hst, hfp⟩ := hq
  refine ⟨(A, c, ps), by rw [← hm, List.length_map], O, fun L hL w2 O2 => ⟨?_, hm⟩⟩
  exact hst w' w2 O2.size (fun y hy => O2.block y (hfp y hy).2 fun hm => by have := hL y hm; have := (hfp y hy).1; omega) hP
theorem parse_bad (s : List UInt8) (w : World) (hS : SLib w) {i : Int} (h : parseM s = (none, i)) : Calls Tryz.prog 17 #[.string (strL s)] w fun e w' => e = .returned (.tuple #[.slice none 0 0, .int .i64 i]) ∧ Only [] w w' := by
  refine (parse_any19 s w hS).mono ?_
  rintro e w' ⟨hq, O⟩
  rw [h] at hq
  exact ⟨hq, O⟩
theorem alive_any19 (w : World) (hS : SLib w) : Calls Tryz.prog 6 #[] w (RetB true w) := by
  refine Hs.enter Tryz.func6 [] [] [] [] (Mem.start0 w) (by kernel_rfl) (by kernel_rfl) ?_
  refine Hs.run0 300 (fun _ => by kernel_rfl) ?_
  refine Hs.callM (Nx.start w) (fun w' H => parse_new t19a w' (hS.only H.only) parse_a) (by kernel_rfl) (by kernel_rfl) fun z w1 L1 N => ?_
  obtain ⟨A, c, ps⟩ := z
  obtain ⟨hP, hm⟩ := (N.keeps w1 (Only.refl _ _)).1
  dsimp only at hP hm
  obtain ⟨⟨xn, xA, xc, xo⟩, hps⟩ : ∃ x, ps = [x] := by
    have h := congrArg List.length hm
    rw [List.length_map] at h
    exact List.length_eq_one_iff.1 h
  subst hps
  have hm2 : [(xn, xo)] = l19a := hm
  unfold l19a at hm2
  injection hm2 with hm2 _
  injection hm2 with e1 e2
  subst e1
  subst e2
  obtain ⟨ab, aoff, hA, _, _⟩ := hP.rd (by show 0 < 1; decide)
  obtain ⟨ob, ooff, hO, _, _⟩ := (hP.all _ (List.mem_singleton.2 rfl)).1 (by show 0 < 2; decide)
  dsimp only at hO
  subst hA
  subst hO
  have hN : ∀ {β : List Nat} {hp : List HB} {w' : World}, Mem w1 L1 β hp w' → Pgs w' (some ⟨ab, aoff, none⟩) c [⟨strL [97], some ⟨ob, ooff, none⟩, xc, [⟨2, 0, 0, strL [104, 105, 10]⟩, ⟨1, 3, 0, strL []⟩]⟩] := fun H => (N.now H).1.1
  refine Hs.run0 300 (fun _ => by kernel_rfl) ?_
  refine Hs.callV (v := .tuple #[.slice none 0 0, .int .i64 2]) (fun w' H => parse_bad t19b w' (hS.only (N.only H)) parse_b) (by kernel_rfl) ?_
  refine Hs.run0 300 (fun _ => by kernel_rfl) ?_
  refine Hs.rung0 [2, 7] 300 (fun _ => by kernel_rfl) ?_
  refine Hs.idx (b := ab) (off := aoff) (len := 1) (c := c) (i := 0) elemPr (by decide) (by kernel_rfl) ?_
  refine Hs.rung0 [2, 7] 300 (fun _ => by kernel_rfl) ?_
  refine Hs.ldc (E' := 31) (b := ab) (off := aoff + 0 * 2 + 1) (.slice (some ⟨ob, ooff, none⟩) 2 xc) (by kernel_rfl) (fun w' H => rdX_cell cPG_len (hN H).rd (i := 0) rfl (j := 1) rfl) (by kernel_rfl) ?_
  refine Hs.rung0 [2, 7, 15] 300 (fun _ => by kernel_rfl) ?_
  refine Hs.idx (b := ab) (off := aoff) (len := 1) (c := c) (i := 0) elemPr (by decide) (by kernel_rfl) ?_
  refine Hs.rung0 [2, 7, 15] 300 (fun _ => by kernel_rfl) ?_
  refine Hs.ldc (E' := 31) (b := ab) (off := aoff + 0 * 2 + 1) (.slice (some ⟨ob, ooff, none⟩) 2 xc) (by kernel_rfl) (fun w' H => rdX_cell cPG_len (hN H).rd (i := 0) rfl (j := 1) rfl) (by kernel_rfl) ?_
  refine Hs.rung0 [2, 7, 15] 300 (fun _ => by kernel_rfl) ?_
  refine Hs.idx (b := ob) (off := ooff) (len := 2) (c := xc) (i := 0) elemPo (by decide) (by kernel_rfl) ?_
  refine Hs.rung0 [2, 7, 15] 300 (fun _ => by kernel_rfl) ?_
  refine Hs.ldc (E' := 9) (b := ob) (off := ooff + 0 * 4 + 3) (.string (strL [104, 105, 10])) (by kernel_rfl) (fun w' H => rdX_cell cOP_len ((hN H).all _ (List.mem_singleton.2 rfl)).1 (i := 0) rfl (j := 3) rfl) (by kernel_rfl) ?_
  refine Hs.rung0 [2, 7, 15, 25, 29] 300 (fun _ => by kernel_rfl) ?_
  have hC : ∀ {β : List Nat} {hp : List HB} {w' : World}, Mem w1 L1 β hp w' → Calls Tryz.prog 11 #[.slice (some ⟨ab, aoff, none⟩) 1 c, .int .i64 0] w' fun e w2 => e = .returned (.int .i64 2) ∧ Only [] w' w2 := fun {β hp w'} H => by
    have := work_any19 [⟨strL [97], some ⟨ob, ooff, none⟩, xc, [⟨2, 0, 0, strL [104, 105, 10]⟩, ⟨1, 3, 0, strL []⟩]⟩] (some ⟨ab, aoff, none⟩) c 0 w' (hN H)
    rw [show workM (List.map PG.m [⟨strL [97], some ⟨ob, ooff, none⟩, xc, [⟨2, 0, 0, strL [104, 105, 10]⟩, ⟨1, 3, 0, strL []⟩]⟩]) 0 = 2 from work_a] at this
    exact this
  refine Hs.callV (v := .int .i64 2) (fun w' H => hC H) (by kernel_rfl) ?_
  refine Hs.rung0 [2, 7, 15, 25, 29] 300 (fun _ => by kernel_rfl) ?_
  exact Hs.ret (v := .bool true) Tryz.func6 (by kernel_rfl) fun w' H => ⟨rfl, N.only H⟩
end Go.Proofs.YtmmcamkmglpgiaaGreatDoor

namespace Go.Proofs.YtmmcamkmglpgiaaGreatDoor
open Go.RowKit Go.MapKept
set_option linter.all false
set_option maxRecDepth 100000
theorem stepW_shift {g : Int → Int} {o : OP9} {n d : Int} (h0 : 0 ≤ n) (hd : 0 ≤ d) (hg : 0 ≤ g o.a) : stepW g o (min (n + d) 1073741824) = min (stepW g o n + d) 1073741824 := by
  unfold stepW
  split <;> split <;> split <;> omega
theorem opsW_shift {g : Int → Int} (hg : ∀ a, 0 ≤ g a) {d : Int} (hd : 0 ≤ d) : ∀ (ops : List OP9) (n : Int), 0 ≤ n → n ≤ 1073741824 → opsW g ops (min (n + d) 1073741824) = min (opsW g ops n + d) 1073741824
  | [], n, _, _ => rfl
  | o :: l, n, h0, h1 => by
    have hb := stepW_bd (g := g) (o := o) h0 (hg o.a)
    rw [opsW_cons, opsW_cons, stepW_shift h0 hd (hg o.a)]
    split
    · rfl
    · exact opsW_shift hg hd l _ hb.1 hb.2
theorem all_wrongs {q : Int} : ∀ {l : List PM} {i : Nat}, (∀ (k : Nat) (m : PM), l[k]? = some m → wrongM m ((i + k : Nat) : Int) q = 0) → wrongs q l i = 0
  | [], i, _ => rfl
  | a :: l, i, h => by
    have h0 : wrongM a i q = 0 := h 0 a rfl
    rw [wrongs_cons, if_pos h0]
    exact all_wrongs fun k m hk => by
      have := h (k + 1) m (by simpa using hk)
      rwa [show i + (k + 1) = i + 1 + k by omega] at this
theorem wrongM_of {m : PM} {p q : Int} (h1 : nmB m.1 = true) (h2 : m.2.length ≤ 64) (h3 : ∀ o ∈ m.2, rightB o p q = true) : wrongM m p q = 0 := by
  unfold wrongM
  rw [h1]
  dsimp only
  rw [if_neg (by omega), show badOps m.2 p q = false from List.any_eq_false.2 fun o ho => by rw [h3 o ho]; decide]
/-- An operation in front of a program's. -/
def frontM (l : List PM) (i : Nat) (o : OP9) : List PM := l.modify i fun m => (m.1, o :: m.2)
theorem frontM_get (l : List PM) (i : Nat) (o : OP9) (k : Nat) : (frontM l i o)[k]? = (l[k]?).map fun m => if i = k then (m.1, o :: m.2) else m := by
  unfold frontM
  rw [List.getElem?_modify]
  cases l[k]? with
  | none => rfl
  | some m => by_cases h : i = k <;> simp [h]
theorem frontM_fst (l : List PM) (i : Nat) (o : OP9) : (frontM l i o).map Prod.fst = l.map Prod.fst := by
  apply List.ext_getElem?
  intro k
  rw [List.getElem?_map, List.getElem?_map, frontM_get]
  cases l[k]? with
  | none => rfl
  | some m => simp; split <;> rfl
theorem frontM_len (l : List PM) (i : Nat) (o : OP9) : (frontM l i o).length = l.length := List.length_modify ..
theorem frontM_check {l : List PM} (h : checkM l = 0) {i : Nat} {m : PM} (hi : l[i]? = some m) (hm : m.2.length < 64) {o : OP9} (ho : rightB o i l.length = true) : checkM (frontM l i o) = 0 := by
  have hl := check_len h
  have hw := check_wrongs h
  have h1 : wrongs l.length (frontM l i o) 0 = 0 := all_wrongs fun k m' hk => by
    rw [frontM_get] at hk
    cases hk2 : l[k]? with
    | none => rw [hk2] at hk; cases hk
    | some m2 =>
      rw [hk2] at hk
      simp only [Option.map_some, Option.some.injEq] at hk
      have hp := check_prog h hk2
      rw [Nat.zero_add]
      split at hk
      · rename_i e
        subst e
        rw [hi] at hk2
        injection hk2 with hk2
        subst hk2
        subst hk
        refine wrongM_of hp.1 (by simp; omega) fun q hq => ?_
        rcases List.mem_cons.1 hq with e | e
        · rw [e]; exact ho
        · exact hp.2.2 q e
      · subst hk
        exact wrongM_of hp.1 hp.2.1 hp.2.2
  unfold checkM
  rw [frontM_len, frontM_fst]
  rw [show withinB (l.length : Int) 1 32 = true by simp [withinB]; omega]
  dsimp only
  rw [if_pos h1]
  exact hw.2
theorem frontM_later {l : List PM} (i : Nat) (o : OP9) (hf : Fwd l) (hf2 : Fwd (frontM l i o)) : ∀ (d k : Nat), l.length - k ≤ d → i < k → k < l.length → workW (frontM l i o) k = workW l k := by
  intro d
  induction d with
  | zero => intro k h1 h2 h3; omega
  | succ d ih =>
    intro k h1 h2 h3
    obtain ⟨m, hm⟩ : ∃ m, l[k]? = some m := ⟨_, List.getElem?_eq_getElem h3⟩
    have e1 := (workW_ok hf).eq k m hm
    have e2 := (workW_ok hf2).eq k m (by rw [frontM_get, hm]; simp; intro e; omega)
    rw [e1, e2]
    refine opsW_congr _ _ fun q hq h5 => ?_
    have := hf k m q hm hq h5
    exact ih q.a.toNat (by omega) (by omega) (by omega)
/-- What an operation in front makes of it. -/
theorem front_work {l : List PM} (h : checkM l = 0) {i : Nat} {m : PM} (hi : l[i]? = some m) (hm : m.2.length < 64) {o : OP9} (ho : rightB o i l.length = true) : workM (frontM l i o) i = opsW (fun a => workW l a.toNat) (o :: m.2) 0 := by
  have hil := (List.getElem?_eq_some_iff.1 hi).1
  have hc := frontM_check h hi hm ho
  have hf := check_fwd h
  have hf2 := check_fwd hc
  unfold workM
  rw [if_pos ⟨hc, by omega, by rw [frontM_len]; omega⟩, Int.toNat_natCast]
  have hg : (frontM l i o)[i]? = some (m.1, o :: m.2) := by rw [frontM_get, hi]; simp
  rw [(workW_ok hf2).eq i _ hg]
  refine opsW_congr _ _ fun q hq h5 => ?_
  have := hf2 i _ q hg hq h5
  rw [frontM_len] at this
  exact frontM_later i o hf hf2 l.length q.a.toNat (by omega) (by omega) (by omega)
theorem work_self {l : List PM} (h : checkM l = 0) {i : Nat} {m : PM} (hi : l[i]? = some m) : workM l i = opsW (fun a => workW l a.toNat) m.2 0 := by
  have hil := (List.getElem?_eq_some_iff.1 hi).1
  unfold workM
  rw [if_pos ⟨h, by omega, by omega⟩, Int.toNat_natCast]
  exact (workW_ok (check_fwd h)).eq i m hi
theorem work_bd (l : List PM) (i : Int) : 0 ≤ workM l i ∧ workM l i ≤ 1073741824 := by
  unfold workM
  split
  · exact workF_bd l _ _
  · exact ⟨Int.le_refl _, (by decide : (0 : Int) ≤ 1073741824)⟩
theorem stepW_plain {g : Int → Int} {o : OP9} (h : ¬ (o.k = 5 ∨ o.k = 6)) (n : Int) : stepW g o n = min (n + 1) 1073741824 := by
  unfold stepW
  rw [if_neg h]
  split <;> omega
theorem stepW_call {g : Int → Int} {o : OP9} (h : o.k = 5 ∨ o.k = 6) (n : Int) : stepW g o n = min (n + 1 + g o.a) 1073741824 := by
  unfold stepW
  rw [if_pos h]
  split <;> omega
section
variable {l : List PM} {i : Nat} {m : PM}
theorem work_g (a : Int) : 0 ≤ (fun a : Int => workW l a.toNat) a := (workF_bd l (l.length - a.toNat) a.toNat).1
theorem copy_law (h : checkM l = 0) (hi : l[i]? = some m) (hm : m.2.length < 64) : workM (frontM l i ⟨16, 0, 0, ⟨#[]⟩⟩) i = min (workM l i + 1) 1073741824 := by
  rw [front_work h hi hm (by kernel_rfl), work_self h hi, opsW_cons, if_neg (by simp), stepW_plain (by simp)]
  exact opsW_shift work_g (by decide) m.2 0 (Int.le_refl _) (by decide)
theorem exit_law (h : checkM l = 0) (hi : l[i]? = some m) (hm : m.2.length < 64) : workM (frontM l i ⟨1, 7, 0, ⟨#[]⟩⟩) i = 1 := by
  rw [front_work h hi hm (by kernel_rfl), opsW_cons, if_pos (by simp), stepW_plain (by simp)]
  rfl
theorem work_at (h : checkM l = 0) {k : Nat} (hk : k < l.length) : workM l k = workW l k := by
  unfold workM
  rw [if_pos ⟨h, by omega, by omega⟩, Int.toNat_natCast]
theorem later_of {k : Nat} (h1 : i < k) (h2 : k < l.length) : laterB i l.length k = true := by
  unfold laterB
  rw [decide_eq_true (by omega : (k : Int) > (i : Int)), decide_eq_true (by omega : (k : Int) < (l.length : Int))]
  rfl
theorem fork_law (h : checkM l = 0) (hi : l[i]? = some m) (hm : m.2.length < 64) {k : Nat} (h1 : i < k) (h2 : k < l.length) : workM (frontM l i ⟨5, k, 0, ⟨#[]⟩⟩) i = min (workM l i + 1 + workM l k) 1073741824 := by
  have hr : rightB ⟨5, k, 0, ⟨#[]⟩⟩ i l.length = true := (by kernel_rfl : rightB ⟨5, k, 0, ⟨#[]⟩⟩ i l.length = laterB i l.length k).trans (later_of h1 h2)
  have hb := work_bd l k
  rw [front_work h hi hm hr, work_self h hi, opsW_cons, if_neg (by simp), stepW_call (by simp)]
  have e : (fun a : Int => workW l a.toNat) (k : Int) = workM l k := by rw [work_at h h2]; show workW l (k : Int).toNat = _; rw [Int.toNat_natCast]
  show opsW (fun a : Int => workW l a.toNat) m.2 (min (0 + 1 + (fun a : Int => workW l a.toNat) (k : Int)) 1073741824) = _
  rw [e, Int.add_assoc 0]
  rw [opsW_shift work_g (by omega) m.2 0 (Int.le_refl _) (by decide)]
  congr 1
  omega
theorem exec_law (h : checkM l = 0) (hi : l[i]? = some m) (hm : m.2.length < 64) {k : Nat} (h1 : i < k) (h2 : k < l.length) : workM (frontM l i ⟨6, k, 0, ⟨#[]⟩⟩) i = min (1 + workM l k) 1073741824 := by
  have hr : rightB ⟨6, k, 0, ⟨#[]⟩⟩ i l.length = true := (by kernel_rfl : rightB ⟨6, k, 0, ⟨#[]⟩⟩ i l.length = laterB i l.length k).trans (later_of h1 h2)
  rw [front_work h hi hm hr, opsW_cons, if_pos (by simp), stepW_call (by simp)]
  have e : (fun a : Int => workW l a.toNat) (k : Int) = workM l k := by rw [work_at h h2]; show workW l (k : Int).toNat = _; rw [Int.toNat_natCast]
  show min (0 + 1 + (fun a : Int => workW l a.toNat) (k : Int)) 1073741824 = _
  rw [e]
  rfl
end
end Go.Proofs.YtmmcamkmglpgiaaGreatDoor

namespace Go.Proofs.YtmmcamkmglpgiaaGreatDoor
set_option linter.all false
set_option maxRecDepth 100000
open Go.RowKit
/-- New programs, the row the caller's own. -/
abbrev ToPost (ps : List PG) (w : World) : Ending → World → Prop := fun e w' => ∃ (A' : Option Addr) (c' : Nat) (outs : List PG), e = .returned (.slice A' ps.length c') ∧ Only [] w w' ∧ outs.length = ps.length ∧ OwnX cPG 33 2 w' w.heap.size (.slice A' ps.length c') outs ∧ ∀ L : List Nat, (∀ y ∈ L, y < w.heap.size ∨ some y = A'.map (·.block)) → Keeps w' L (fun w => outs.map PG.m = ps.map PG.m ∧ ∀ z ∈ outs, PgOk w z)
set_option maxHeartbeats 4000000 in
theorem to19_own (ps : List PG) (A : Option Addr) (c : Nat) (w : World) (h : Pgs w A c ps) (hf : PgFew ps) : Calls Tryz.prog 10 #[.slice A ps.length c] w (ToPost ps w) := by
  have hlen : ps.length ≤ maxLen := Nat.le_trans h.le h.max
  have hps := hf.len
  have J : ∀ (d i : Nat), ps.length - i = d → i ≤ ps.length → ∀ (outs : List PG) (A4 : Option Addr) (c4 : Nat) (w1 : World) (L1 : List Nat), Nx w w1 L1 (fun w => ∀ z ∈ outs, PgOk w z) → outs.map PG.m = (ps.take i).map PG.m → outs.length = i → ∀ (u : Nat → Value), Hs Tryz.prog 10 (ToPost ps w) (Tryz.f10).ntmps w1 L1 [0] ⟨.no, loopAt Tryz.f10 0, pins [(3, .c (.v (.slice A4 i c4))), (9, .c (.v (.slice A ps.length c))), (10, .c (.v (.int .i64 ps.length))), (11, .c (.v (.int .i64 i)))] (.vals u), [.s A4 c4 i 33 2 (outs.flatMap cPG)]⟩ := by
    intro d
    induction d with
    | zero =>
      intro i hd hi outs A4 c4 w1 L1 N ho hol u
      obtain rfl : i = ps.length := by omega
      rw [List.take_length] at ho
      refine Hs.run0 300 (fun _ => by kernel_rfl) ?_
      refine Hs.condP ((ps.length : Int) < (ps.length : Int)) (by kernel_rfl) (fun h => by omega) (fun _ => ?_)
      refine Hs.run0 300 (fun _ => by kernel_rfl) ?_
      exact Hs.ret (v := .slice A4 ps.length c4) Tryz.func10 (by kernel_rfl) fun w' H => ⟨A4, c4, outs, rfl, N.only H, hol, N.ownX (cf := cPG) H 0 hol (by kernel_rfl), fun L hL => (N.fin H L (fun y hy => (hL y hy).imp id fun e => wrN_mem.2 ⟨0, .s A4 c4 ps.length 33 2 (outs.flatMap cPG), 0, (by kernel_rfl), rfl, rfl, e.symm⟩)).imp fun w h => ⟨ho, h⟩⟩
    | succ d ih =>
      intro i hd hi outs A4 c4 w1 L1 N ho hol u
      have hil : i < ps.length := by omega
      obtain ⟨x, hx⟩ : ∃ x, ps[i]? = some x := ⟨_, List.getElem?_eq_getElem hil⟩
      have hxm : x ∈ ps := List.mem_of_getElem? hx
      have hxo := h.all x hxm
      have hxl := hf.ops x hxm
      obtain ⟨ab, aoff, hA, _, _⟩ := h.rd (by omega)
      have hih := fun outs A4 c4 w1 L1 N e1 e2 u => ih (i + 1) (by omega) (by omega) outs A4 c4 w1 L1 N e1 e2 u
      clear ih
      have hrd := h.rd
      rw [hA] at hih hrd ⊢
      have K : ∀ (e j : Nat), x.ops.length - j = e → j ≤ x.ops.length → ∀ (g0 g : Nat) (A5 : Option Addr) (c5 : Nat) (u : Nat → Value), Hs Tryz.prog 10 (ToPost ps w) (Tryz.f10).ntmps w1 L1 [0, g, 0] ⟨.no, loopAt Tryz.f10 1, pins [(3, .c (.v (.slice A4 i c4))), (6, .c (.p 1 0)), (9, .c (.v (.slice (some ⟨ab, aoff, none⟩) ps.length c))), (10, .c (.v (.int .i64 ps.length))), (11, .c (.v (.int .i64 i))), (19, .c (.v (.slice x.A x.ops.length x.c))), (20, .c (.v (.int .i64 x.ops.length))), (21, .c (.v (.int .i64 j)))] (.vals u), [.s A4 c4 i 33 2 (outs.flatMap cPG), .b true 33 [.v (.string x.n), .v (.slice A5 j c5)], .s A5 c5 j 36 4 ((x.ops.take j).flatMap cOP)]⟩ := by
        intro e
        induction e with
        | zero =>
          intro j he hj g0 g A5 c5 u
          obtain rfl : j = x.ops.length := by omega
          rw [List.take_length]
          refine Hs.run0 300 (fun _ => by kernel_rfl) ?_
          refine Hs.condP ((x.ops.length : Int) < (x.ops.length : Int)) (by kernel_rfl) (fun h => by omega) (fun _ => ?_)
          refine Hs.run1 300 (fun _ => by kernel_rfl) fun b3 => ?_
          refine Hs.app (cf := cPG) (c := 1) (ty := 29) 0 elemPr outs [(⟨x.n, A5, c5, x.ops⟩ : PG)] i 1 hol rfl cPG_one cPG_len (A := A4) (B := some ⟨b3, 0, none⟩) (cap := c4) (by kernel_rfl) (by kernel_rfl) (by kernel_rfl) (fun w' H => H.rdB (cf := cPG) (wr := true) (T := 33) (cs := PG.sc ⟨x.n, A5, c5, x.ops⟩) (gs := [(⟨x.n, A5, c5, x.ops⟩ : PG)]) 3 (by kernel_rfl) rfl) (by unfold maxLen; omega) (by rw [elemPr_by]; omega) fun A6 c6 h6 => ?_
          refine Hs.run0 300 (fun _ => by kernel_rfl) ?_
          refine Hs.freezeN 2 (cf := cOP) (size := 4) (A := A5) (cap := c5) (nl := x.ops.length) (E := 36) N rfl (by kernel_rfl) (by kernel_rfl) fun w3 L3 N3 => ?_
          refine Hs.slot 11 (.c (.v (.int .i64 (i + 1 : Nat)))) rfl ((by kernel_rfl : _ = Value.int .i64 (IntKind.i64.wrap ((i : Int) + 1))).trans (wrap_nextJ hlen)) ?_
          refine Hs.loop (by kernel_rfl) ?_
          exact Hs.goto (loopAt Tryz.f10 0) [0] [.s A6 c6 (i + 1) 33 2 ((outs ++ [(⟨x.n, A5, c5, x.ops⟩ : PG)]).flatMap cPG)] [(3, .c (.v (.slice A6 (i + 1) c6))), (9, .c (.v (.slice (some ⟨ab, aoff, none⟩) ps.length c))), (10, .c (.v (.int .i64 ps.length))), (11, .c (.v (.int .i64 (i + 1 : Nat))))] (by kernel_rfl) (by decide) (by kernel_rfl) (by kernel_rfl) (fun _ => (by kernel_rfl)) (fun u => hih (outs ++ [(⟨x.n, A5, c5, x.ops⟩ : PG)]) A6 c6 w3 L3 (N3.imp fun w h => fun y hy => by
            rcases List.mem_append.1 hy with h1 | h1
            · exact h.2 y h1
            · rw [List.mem_singleton.1 h1]; exact h.1) (by rw [List.map_append, ho, List.take_add_one, hx, List.map_append]; rfl) (by rw [List.length_append, hol]; rfl) u)
        | succ e ihk =>
          intro j he hj g0 g A5 c5 u
          have hjl : j < x.ops.length := by omega
          obtain ⟨y, hy⟩ : ∃ y, x.ops[j]? = some y := ⟨_, List.getElem?_eq_getElem hjl⟩
          have htj : (x.ops.take j).length = j := by rw [List.length_take]; omega
          obtain ⟨ob, ooff, hO, _, _⟩ := hxo.1 (by omega)
          have hihk := fun g0 g A5 c5 u => ihk (j + 1) (by omega) (by omega) g0 g A5 c5 u
          clear ihk
          have hor := hxo.1
          rw [hO] at hihk hor ⊢
          refine Hs.run0 300 (fun _ => by kernel_rfl) ?_
          refine Hs.condP ((j : Int) < (x.ops.length : Int)) (by kernel_rfl) (fun _ => ?_) (fun h => by omega)
          refine Hs.run0 300 (fun _ => by kernel_rfl) ?_
          refine Hs.idx (b := ob) (off := ooff) (len := x.ops.length) (c := x.c) (i := j) elemRo hjl (by kernel_rfl) ?_
          refine Hs.ldx (cf := cOP) (size := 4) (E := 52) (b := ob) (off := ooff) (i := j) (l := x.ops) (x := y) cOP_len (.g y.sc) (by kernel_rfl) (fun w' H => hor.only (N.only H)) hy (by kernel_rfl) (by kernel_rfl) rfl (by kernel_rfl) ?_
          refine Hs.run2 300 (fun _ => by kernel_rfl) fun b4 b5 => ?_
          refine Hs.app (cf := cOP) (c := 1) (ty := 31) 2 elemPo (x.ops.take j) [y] j 1 htj rfl cOP_one cOP_len (A := A5) (B := some ⟨b5, 0, none⟩) (cap := c5) (by kernel_rfl) (by kernel_rfl) (by kernel_rfl) (fun w' H => H.rdB (cf := cOP) (wr := true) (T := 36) (cs := y.sc) (gs := [y]) 4 (by kernel_rfl) rfl) (by unfold maxLen; omega) (by rw [elemPo_by]; omega) fun A6 c6 h6 => ?_
          refine Hs.run0 300 (fun _ => by kernel_rfl) ?_
          refine Hs.slot 21 (.c (.v (.int .i64 (j + 1 : Nat)))) rfl ((by kernel_rfl : _ = Value.int .i64 (IntKind.i64.wrap ((j : Int) + 1))).trans (wrap_nextJ (Nat.le_trans hxo.2.1 hxo.2.2))) ?_
          refine Hs.loop (by kernel_rfl) ?_
          have e1 : x.ops.take j ++ [y] = x.ops.take (j + 1) := by rw [List.take_add_one, hy]; rfl
          rw [e1]
          exact Hs.goto (loopAt Tryz.f10 1) [0, 1, 2] [.s A4 c4 i 33 2 (outs.flatMap cPG), .b true 33 [.v (.string x.n), .v (.slice A6 (j + 1) c6)], .s A6 c6 (j + 1) 36 4 ((x.ops.take (j + 1)).flatMap cOP)] [(3, .c (.v (.slice A4 i c4))), (6, .c (.p 1 0)), (9, .c (.v (.slice (some ⟨ab, aoff, none⟩) ps.length c))), (10, .c (.v (.int .i64 ps.length))), (11, .c (.v (.int .i64 i))), (19, .c (.v (.slice (some ⟨ob, ooff, none⟩) x.ops.length x.c))), (20, .c (.v (.int .i64 x.ops.length))), (21, .c (.v (.int .i64 (j + 1 : Nat))))] (by kernel_rfl) (by decide) (by kernel_rfl) (by kernel_rfl) (fun _ => (by kernel_rfl)) (fun u => hihk g0 g A6 c6 u)
      refine Hs.run0 300 (fun _ => by kernel_rfl) ?_
      refine Hs.condP ((i : Int) < (ps.length : Int)) (by kernel_rfl) (fun _ => ?_) (fun h => by omega)
      refine Hs.run0 300 (fun _ => by kernel_rfl) ?_
      refine Hs.idx (b := ab) (off := aoff) (len := ps.length) (c := c) (i := i) elemLp hil (by kernel_rfl) ?_
      refine Hs.ldx (cf := cPG) (size := 2) (E := 53) (b := ab) (off := aoff) (i := i) (l := ps) (x := x) cPG_len (.g x.sc) (by kernel_rfl) (fun w' H => hrd.only (N.only H)) hx (by kernel_rfl) (by kernel_rfl) rfl (by kernel_rfl) ?_
      refine Hs.run2 300 (fun _ => by kernel_rfl) fun b1 b2 => ?_
      refine Hs.nilS 36 4 (by kernel_rfl) ?_ (by kernel_rfl)
      refine Hs.loop (by kernel_rfl) ?_
      exact Hs.goto (loopAt Tryz.f10 1) [0, 2, 3] [.s A4 c4 i 33 2 (outs.flatMap cPG), .b true 33 [.v (.string x.n), .v (.slice none 0 0)], .s none 0 0 36 4 ((x.ops.take 0).flatMap cOP)] [(3, .c (.v (.slice A4 i c4))), (6, .c (.p 1 0)), (9, .c (.v (.slice (some ⟨ab, aoff, none⟩) ps.length c))), (10, .c (.v (.int .i64 ps.length))), (11, .c (.v (.int .i64 i))), (19, .c (.v (.slice x.A x.ops.length x.c))), (20, .c (.v (.int .i64 x.ops.length))), (21, .c (.v (.int .i64 (0 : Nat))))] (by kernel_rfl) (by decide) (by kernel_rfl) (by kernel_rfl) (fun _ => (by kernel_rfl)) (fun u => K x.ops.length 0 (by omega) (by omega) 0 b2 none 0 u)
  refine Hs.enter Tryz.func10 [] [] [] [.c (.v (.slice A ps.length c))] (Mem.start0 w) (by kernel_rfl) (by kernel_rfl) ?_
  refine Hs.run0 300 (fun _ => by kernel_rfl) ?_
  refine Hs.nilS 33 2 (by kernel_rfl) ?_ (by kernel_rfl)
  refine Hs.loop (by kernel_rfl) ?_
  exact Hs.goto (loopAt Tryz.f10 0) [0] [.s none 0 0 33 2 (([] : List PG).flatMap cPG)] [(3, .c (.v (.slice none 0 0))), (9, .c (.v (.slice A ps.length c))), (10, .c (.v (.int .i64 ps.length))), (11, .c (.v (.int .i64 (0 : Nat))))] (by kernel_rfl) (by decide) (by kernel_rfl) (by kernel_rfl) (fun _ => (by kernel_rfl)) (fun u => J ps.length 0 (by omega) (by omega) [] none 0 w [] ((Nx.start w).imp fun w h => fun y hy => by cases hy) rfl rfl u)
end Go.Proofs.YtmmcamkmglpgiaaGreatDoor

namespace Go.Proofs.YtmmcamkmglpgiaaGreatDoor
set_option linter.all false
set_option maxRecDepth 100000
open Go.RowKit
theorem splice_setP (l : List PG) (i : Nat) (x : PG) (hx : l[i]? = some x) (A : Option Addr) (c n : Nat) (q : List OP9) (hn : q.length = n) : splice (l.flatMap cPG) (0 + i * 2 + 1) [.slice A n c] = (l.set i ⟨x.n, A, c, q⟩).flatMap cPG := by
  subst hn
  have hil := (List.getElem?_eq_some_iff.1 hx).1
  have e : ∀ l : List PG, (l.flatMap cPG).length = l.length * 2 := fun l => by
    induction l with
    | nil => rfl
    | cons a l ih => rw [List.flatMap_cons, List.length_append, ih, cPG_len, List.length_cons]; omega
  have e0 : l = l.take i ++ x :: l.drop (i + 1) := by
    have h1 := List.take_append_drop i l
    rw [List.drop_eq_getElem_cons hil] at h1
    rw [List.getElem?_eq_getElem hil] at hx
    injection hx with hx
    rw [hx] at h1
    exact h1.symm
  have e1 : l.set i ⟨x.n, A, c, q⟩ = l.take i ++ ⟨x.n, A, c, q⟩ :: l.drop (i + 1) := by
    rw [List.set_eq_take_append_cons_drop, if_pos hil]
  rw [e1]
  conv => lhs; rw [e0]
  have hti : ((l.take i).flatMap cPG).length = i * 2 := by rw [e, List.length_take]; omega
  rw [List.flatMap_append, List.flatMap_append, List.flatMap_cons, List.flatMap_cons]
  unfold splice
  rw [List.take_append, List.drop_append, hti]
  have e3 : 0 + i * 2 + 1 - i * 2 = 1 := by omega
  have e4 : ((l.take i).flatMap cPG).take (0 + i * 2 + 1) = (l.take i).flatMap cPG := List.take_of_length_le (by omega)
  have e5 : ((l.take i).flatMap cPG).drop (0 + i * 2 + 1 + [(.slice A q.length c : Value)].length) = [] := List.drop_of_length_le (by rw [List.length_cons, List.length_nil, hti]; omega)
  have e6 : 0 + i * 2 + 1 + [(.slice A q.length c : Value)].length - i * 2 = 2 := by rw [List.length_cons, List.length_nil]; omega
  rw [e3, e4, e5, e6]
  simp [cPG]
theorem frontM_set (l : List PG) (i : Nat) (x : PG) (hx : l[i]? = some x) (A : Option Addr) (c : Nat) (o : OP9) : (l.set i ⟨x.n, A, c, o :: x.ops⟩).map PG.m = frontM (l.map PG.m) i o := by
  apply List.ext_getElem?
  intro k
  rw [frontM_get, List.getElem?_map, List.getElem?_map, List.getElem?_set]
  have hil := (List.getElem?_eq_some_iff.1 hx).1
  by_cases h : i = k
  · subst h
    rw [if_pos rfl, if_pos hil, hx]
    simp [PG.m]
  · simp [h]
    cases l[k]? <;> rfl
set_option maxHeartbeats 4000000 in
theorem front_any (ps : List PG) (A : Option Addr) (c : Nat) (i : Nat) (o : OP9) (bl bi : Nat) (hbl : bl ≠ bi) (w : World) (h : Pgs w A c ps) (hf : PgFew ps) (hi : i < ps.length) (h1 : Blk w bl 22 [.slice A ps.length c]) (h2 : Blk w bi 3 [.int .i64 i]) : Calls Tryz.prog 12 #[.agg (cOP o).toArray, .pointer (some ⟨bl, 0, none⟩), .pointer (some ⟨bi, 0, none⟩)] w fun e w' => e = .returned (.int .i64 (workM (frontM (ps.map PG.m) i o) i)) ∧ Only [] w w' := by
  have H0 : Mem w [] [bl, bi] [.b false 22 [.v (.slice A ps.length c)], .b false 3 [.v (.int .i64 i)]] w := Mem.startW [] rfl (by simp [bks, HB.blk, hbl]) ⟨h1, h2, trivial⟩ (fun y hy => by simp [wrN, HB.wr] at hy)
  refine Hs.enter Tryz.func12 [] [bl, bi] _ [.g o.sc, .c (.p 0 0), .c (.p 1 0)] H0 (by kernel_rfl) (by kernel_rfl) ?_
  refine Hs.run1 300 (fun _ => by kernel_rfl) fun b3 => ?_
  refine Hs.callSM (cf := cPG) (E := 33) (size := 2) (fun A c => .slice A ps.length c) (fun outs : List PG => outs) ps.length (fun outs w => outs.map PG.m = ps.map PG.m ∧ ∀ z ∈ outs, PgOk w z) (Nx.start w) (fun w' H => to19_own ps A c w' (h.only H.only) hf) (by kernel_rfl) (by kernel_rfl) fun A2 c2 outs w1 L1 hol N => ?_
  obtain ⟨x, hx⟩ : ∃ x, outs[i]? = some x := ⟨_, List.getElem?_eq_getElem (by omega)⟩
  have hxm : x ∈ outs := List.mem_of_getElem? hx
  have hD := (N.keeps w1 (Only.refl _ _)).1
  have hxl : x.ops.length ≤ 3518437208875 := by
    have h3 := congrArg (fun l => l[i]?) hD.1
    simp only [List.getElem?_map, hx, List.getElem?_eq_getElem hi, Option.map_some, Option.some.injEq] at h3
    have h4 : x.ops = ps[i].ops := congrArg Prod.snd h3
    rw [h4]
    exact hf.ops _ (List.getElem_mem hi)
  refine Hs.run0 300 (fun _ => by kernel_rfl) ?_
  refine Hs.someS (E := 33) (size := 2) (A := A2) (cap := c2) (nl := ps.length) (vs := outs.flatMap cPG) 3 (by kernel_rfl) (by omega) fun g hg => ?_
  subst hg
  refine Hs.any [1, 2, 3, 1012] (by kernel_rfl) ?_
  refine Hs.run0 300 (fun _ => by kernel_rfl) ?_
  refine Hs.takeIdx (rd := [1, 2, 3]) 6 elemPr (b := g) (off := 0) (c := c2) (len := ps.length) (i := i) hi (by kernel_rfl) ?_
  refine Hs.run0 300 (fun _ => by kernel_rfl) ?_
  refine Hs.takeLdC (rd := [1, 2, 3]) 8 3 cPG_len (E := 33) (E' := 31) (g := g) (i := i) (q := 1) (cap := c2) (nl := ps.length) (l := outs) (x := x) (.slice x.A x.ops.length x.c) (by kernel_rfl) (by kernel_rfl) (by kernel_rfl) hol hx rfl (by kernel_rfl) ?_
  refine Hs.run1 300 (fun _ => by kernel_rfl) fun b5 => ?_
  refine Hs.litN (cf := cOP) (ty := 31) (c := x.c) (cs := o.sc) 4 elemPo [o] x.ops 1 x.ops.length rfl rfl cOP_one cOP_len (B := x.A) (by kernel_rfl) (by kernel_rfl) rfl (by kernel_rfl) (fun w' H => ((N.now H).1.2 x hxm).1) (by unfold maxLen; omega) (by rw [elemPo_by]; omega) fun A5 c5 g1 g2 => ?_
  refine Hs.run0 300 (fun _ => by kernel_rfl) ?_
  refine Hs.idx (b := g) (off := 0) (len := ps.length) (c := c2) (i := i) elemPr hi (by kernel_rfl) ?_
  refine Hs.run0 300 (fun _ => by kernel_rfl) ?_
  refine Hs.stc 3 (E := 33) (size := 2) (g := g) (cap := c2) (nl := ps.length) (vs := outs.flatMap cPG) (by kernel_rfl) (0 + i * 2 + 1) (by rw [flatMap_len cPG_len outs, hol]; omega) (v := .slice A5 (1 + x.ops.length) c5) rfl rfl (E' := 31) (by kernel_rfl) (by kernel_rfl) (by kernel_rfl) ?_
  rw [splice_setP outs i x hx A5 c5 (1 + x.ops.length) (o :: x.ops) (by rw [List.length_cons]; omega)]
  have hsl : (outs.set i ⟨x.n, A5, c5, o :: x.ops⟩).length = ps.length := by rw [List.length_set, hol]
  have hmm : (outs.set i ⟨x.n, A5, c5, o :: x.ops⟩).map PG.m = frontM (ps.map PG.m) i o := by rw [frontM_set outs i x hx, hD.1]
  have hC : ∀ w', Mem w1 L1 ([bl, bi] ++ [b3] ++ [0] ++ [b5]) [.b false 22 [.v (.slice A ps.length c)], .b false 3 [.v (.int .i64 i)], .b true 36 o.sc, .s (some ⟨g, 0, none⟩) c2 ps.length 33 2 ((outs.set i ⟨x.n, A5, c5, o :: x.ops⟩).flatMap cPG), .s A5 c5 (1 + x.ops.length) 36 4 ((o :: x.ops).flatMap cOP)] w' → Calls Tryz.prog 11 #[.slice (some ⟨g, 0, none⟩) ps.length c2, .int .i64 i] w' fun e w2 => e = .returned (.int .i64 (workM (frontM (ps.map PG.m) i o) i)) ∧ Only [] w' w2 := fun w' H => by
    have q3 := Mem.rdX (cf := cPG) (E := 33) (size := 2) (A := some ⟨g, 0, none⟩) (cap := c2) H 3 hsl rfl
    have q4 := Mem.capS (cf := cPG) (E := 33) (size := 2) (A := some ⟨g, 0, none⟩) (cap := c2) H 3 hsl rfl
    have q5 := Mem.rdX (cf := cOP) (E := 36) (size := 4) (A := A5) (cap := c5) (l := o :: x.ops) H 4 (by rw [List.length_cons]; omega) rfl
    have q6 := Mem.capS (cf := cOP) (E := 36) (size := 4) (A := A5) (cap := c5) (l := o :: x.ops) H 4 (by rw [List.length_cons]; omega) rfl
    have := work_any19 (outs.set i ⟨x.n, A5, c5, o :: x.ops⟩) (some ⟨g, 0, none⟩) c2 i w' ⟨q3, by rw [hsl]; exact q4.1, q4.2, fun z hz => ?_⟩
    · rw [hsl, hmm] at this
      exact this
    · rcases List.mem_or_eq_of_mem_set hz with e | e
      · exact (N.now H).1.2 z e
      · rw [e]
        exact ⟨q5, by show (o :: x.ops).length ≤ c5; rw [List.length_cons]; omega, q6.2⟩
  refine Hs.run0 300 (fun _ => by kernel_rfl) ?_
  refine Hs.callV (v := .int .i64 (workM (frontM (ps.map PG.m) i o) i)) (fun w' H => hC w' (Eq.mp (by kernel_rfl) H)) (by kernel_rfl) ?_
  refine Hs.run0 300 (fun _ => by kernel_rfl) ?_
  exact Hs.ret (v := .int .i64 (workM (frontM (ps.map PG.m) i o) i)) Tryz.func12 (by kernel_rfl) fun w' H => ⟨rfl, N.only H⟩
end Go.Proofs.YtmmcamkmglpgiaaGreatDoor

namespace Go.Proofs.YtmmcamkmglpgiaaGreatDoor
set_option linter.all false
set_option maxRecDepth 100000
open Go.RowKit
theorem run_remP {P : Program} {T : TypeId} {a b : Int} (hb : b ≠ 0) (w : World) : (binOp .rem T (.int .i64 a) (.int .i64 b)).run P w = .ok (.int .i64 (a.tmod b)) w := by
  show (Op.intDiv .rem .i64 a b).run P w = _
  unfold Op.intDiv
  rw [if_neg hb]
  rfl
theorem great_at (p : List PG) (A : Option Addr) (c L : Nat) (hl : p.length = L) (w : World) (h : Pgs w A c p) : Calls Tryz.prog 7 #[.slice A L c] w fun e w' => ∃ b : Bool, e = .returned (.bool b) ∧ Only [] w w' ∧ True := by
  subst hl
  refine (great19_any p A c w h).mono ?_
  rintro e w2 ⟨b, rfl, O, _⟩
  exact ⟨b, rfl, O, trivial⟩
theorem check_at (p : List PG) (A : Option Addr) (c L : Nat) (hl : p.length = L) (w : World) (h : Pgs w A c p) {l : List PM} (hm : p.map PG.m = l) : Calls Tryz.prog 9 #[.slice A L c] w fun e w' => e = .returned (.int .i64 (checkM l)) ∧ Only [] w w' := by
  subst hl; subst hm
  exact check_any p A c w h
theorem work_atL (p : List PG) (A : Option Addr) (c L : Nat) (hl : p.length = L) (i : Int) (w : World) (h : Pgs w A c p) {l : List PM} (hm : p.map PG.m = l) : Calls Tryz.prog 11 #[.slice A L c, .int .i64 i] w fun e w' => e = .returned (.int .i64 (workM l i)) ∧ Only [] w w' := by
  subst hl; subst hm
  exact work_any19 p A c i w h
theorem min_if (x : Int) (h0 : 0 ≤ x) (h1 : x ≤ 3221225472) : (if (1073741824 : Int) < IntKind.i64.wrap x then 1073741824 else IntKind.i64.wrap x) = min x 1073741824 := by
  rw [IntWalk.i64_in _ (by omega)]
  split <;> omega
set_option maxHeartbeats 4000000 in
theorem work_law (ps : List PG) (A : Option Addr) (c : Nat) (n : Nat) (hn : n < 256) (w : World) (h : Pgs w A c ps) (hf : PgFew ps) (hS : SLib w) : Calls Tryz.prog 3 #[.slice A ps.length c, .int .u8 n] w (RetB true w) := by
  have hlm : ps.length ≤ maxLen := Nat.le_trans h.le h.max
  unfold maxLen at hlm
  refine Hs.enter Tryz.func3 [] [] [] [.c (.v (.slice A ps.length c)), .c (.v (.int .u8 n))] (Mem.start0 w) (by kernel_rfl) (by kernel_rfl) ?_
  refine Hs.run1 300 (fun _ => by kernel_rfl) fun b2 => ?_
  refine Hs.callV (v := .bool true) (fun w' H => alive_any19 w' (hS.only H.only)) (by kernel_rfl) ?_
  refine Hs.run0 300 (fun _ => by kernel_rfl) ?_
  refine Hs.condF (by kernel_rfl) ?_
  refine Hs.run0 300 (fun _ => by kernel_rfl) ?_
  refine Hs.callM (Nx.start w) (fun w' H => ref19_any ps A c w' (h.only H.only) hf) (by kernel_rfl) (by kernel_rfl) fun z w1 L1 N1 => ?_
  obtain ⟨A1, c1, p1⟩ := z
  have e1 : p1.length = ps.length := PgsP.len (N1.keeps w1 (Only.refl _ _)).1
  refine Hs.run0 300 (fun _ => by kernel_rfl) ?_
  refine Hs.callX (v := fun b => .bool b) (Q := fun _ => True) (fun w' H => great_at p1 A1 c1 ps.length e1 w' (N1.now H).1.1) (by kernel_rfl) fun b _ => ?_
  refine Hs.run0 300 (fun _ => by kernel_rfl) ?_
  refine Hs.bool 16 b (by kernel_rfl) (fun hb => ?_) (fun hb => ?_)
  · refine Hs.rung0 [3] 300 (fun _ => by kernel_rfl) ?_
    refine Hs.condT (by kernel_rfl) ?_
    refine Hs.run0 300 (fun _ => by kernel_rfl) ?_
    exact Hs.ret (v := .bool true) Tryz.func3 (by kernel_rfl) fun w' H => ⟨rfl, N1.only H⟩
  refine Hs.rung0 [3] 300 (fun _ => by kernel_rfl) ?_
  refine Hs.callM N1 (fun w' H => to19_any ps A c w' (h.only (N1.only H)) hf) (by kernel_rfl) (by kernel_rfl) fun z w2 L2 N2 => ?_
  obtain ⟨A2, c2, p2⟩ := z
  have m2 : p2.map PG.m = ps.map PG.m := (N2.keeps w2 (Only.refl _ _)).1.2
  have e2 : p2.length = ps.length := PgsP.len (N2.keeps w2 (Only.refl _ _)).1
  refine Hs.rung0 [3] 300 (fun _ => by kernel_rfl) ?_
  refine Hs.callV (v := .int .i64 (checkM (ps.map PG.m))) (fun w' H => check_at p2 A2 c2 ps.length e2 w' (N2.now H).1.1 m2) (by kernel_rfl) ?_
  refine Hs.rung0 [3] 300 (fun _ => by kernel_rfl) ?_
  refine Hs.cond (!decide (checkM (ps.map PG.m) = 0)) (by kernel_rfl) (fun hc => ?_) (fun hc => ?_)
  · refine Hs.run0 300 (fun _ => by kernel_rfl) ?_
    exact Hs.ret (v := .bool true) Tryz.func3 (by kernel_rfl) fun w' H => ⟨rfl, N2.only H⟩
  have hc : checkM (ps.map PG.m) = 0 := by simpa using hc
  have hl := check_len hc
  rw [List.length_map] at hl
  refine Hs.run0 300 (fun _ => by kernel_rfl) ?_
  refine Hs.callM N2 (fun w' H => to19_any ps A c w' (h.only (N2.only H)) hf) (by kernel_rfl) (by kernel_rfl) fun z w3 L3 N3 => ?_
  obtain ⟨A3, c3, p3⟩ := z
  have m3 : p3.map PG.m = ps.map PG.m := (N3.keeps w3 (Only.refl _ _)).1.2
  have e3 : p3.length = ps.length := PgsP.len (N3.keeps w3 (Only.refl _ _)).1
  refine Hs.runR0 6 [] 300 (fun _ => by kernel_rfl) ?_
  refine Hs.run0 5 (fun _ => by kernel_rfl) ?_
  refine Hs.slot 25 (.c (.v (.int .i64 (n : Nat)))) rfl ((by kernel_rfl : _ = Value.int .i64 (IntKind.i64.wrap (n : Int))).trans (by rw [IntWalk.i64_in _ (by omega)]; rfl)) ?_
  obtain ⟨i, hi0⟩ : ∃ i, i = n % ps.length := ⟨_, rfl⟩
  have hi : i < ps.length := by rw [hi0]; exact Nat.mod_lt _ (by omega)
  have et : ((n : Nat) : Int).tmod (ps.length : Int) = (i : Int) := by rw [Int.tmod_eq_emod_of_nonneg (Int.natCast_nonneg n), hi0]; rfl
  refine Hs.bin (op := .rem) (T := 3) (k := .i64) (k' := .i64) (a := (n : Int)) (b := (ps.length : Int)) (.int .i64 (i : Nat)) (by kernel_rfl) (fun w => by rw [run_remP (by omega), et]) ?_
  obtain ⟨x, hx⟩ : ∃ x, p3[i]? = some x := ⟨_, List.getElem?_eq_getElem (by omega)⟩
  have hlx : (ps.map PG.m)[i]? = some x.m := by rw [← m3, List.getElem?_map, hx]; rfl
  obtain ⟨ab, aoff, hA, _, _⟩ := (N3.keeps w3 (Only.refl _ _)).1.1.rd (by dsimp only; omega)
  dsimp only at hA
  subst hA
  refine Hs.run1 300 (fun _ => by kernel_rfl) fun b6 => ?_
  refine Hs.idx (b := ab) (off := aoff) (len := ps.length) (c := c3) (i := i) elemPr hi (by kernel_rfl) ?_
  refine Hs.run0 300 (fun _ => by kernel_rfl) ?_
  refine Hs.ldc (E' := 31) (b := ab) (off := aoff + i * 2 + 1) (.slice x.A x.ops.length x.c) (by kernel_rfl) (fun w' H => rdX_cell cPG_len (N3.now H).1.1.rd hx (j := 1) rfl) (by kernel_rfl) ?_
  refine Hs.run0 300 (fun _ => by kernel_rfl) ?_
  refine Hs.cond (decide ((64 : Int) ≤ (x.ops.length : Int))) (by kernel_rfl) (fun h6 => ?_) (fun h6 => ?_)
  · refine Hs.run0 300 (fun _ => by kernel_rfl) ?_
    exact Hs.ret (v := .bool true) Tryz.func3 (by kernel_rfl) fun w' H => ⟨rfl, N3.only H⟩
  have h6 : x.m.2.length < 64 := by have := of_decide_eq_false h6; show x.ops.length < 64; omega
  have hwas := work_bd (ps.map PG.m) i
  have hF : ∀ (o : OP9) (v : Int), workM (frontM (ps.map PG.m) i o) i = v → ∀ w', Mem w3 L3 ([] ++ [b2] ++ [b6]) [.b true 22 [.v (.slice A ps.length c)], .b true 3 [.v (.int .i64 (i : Nat))]] w' → Calls Tryz.prog 12 #[.agg (cOP o).toArray, .pointer (some ⟨b2, 0, none⟩), .pointer (some ⟨b6, 0, none⟩)] w' fun e w2 => e = .returned (.int .i64 v) ∧ Only [] w' w2 := fun o v hv w' H => by
    subst hv
    have hnd : [b2, b6].Nodup := (Mem.bks H rfl).1
    exact front_any ps A c i o b2 b6 (fun e => by subst e; simp at hnd) w' (h.only (N3.only H)) hf hi (H.at 0 rfl) (H.at 1 rfl)
  have J : ∀ (d k : Nat), ps.length - k = d → i < k → k ≤ ps.length → ∀ (u : Nat → Value), Hs Tryz.prog ⟨3, none⟩ (RetB true w) (Tryz.f3).ntmps w3 L3 [b2, b6] ⟨.no, loopAt Tryz.f3 0, pins [(2, .c (.p 0 0)), (5, .c (.v (.slice (some ⟨ab, aoff, none⟩) ps.length c3))), (7, .c (.v (.int .i64 (workM (ps.map PG.m) i)))), (8, .c (.v (.func (.func 12) #[] #[.pointer (some ⟨b2, 0, none⟩), .pointer (some ⟨b6, 0, none⟩)]))), (9, .c (.v (.int .i64 (k : Nat))))] (.vals u), [.b true 22 [.v (.slice A ps.length c)], .b true 3 [.v (.int .i64 (i : Nat))]]⟩ := by
    intro d
    induction d with
    | zero =>
      intro k hd hik hk u
      obtain rfl : k = ps.length := by omega
      refine Hs.run0 300 (fun _ => by kernel_rfl) ?_
      refine Hs.condP ((ps.length : Int) < (ps.length : Int)) (by kernel_rfl) (fun h => by omega) (fun _ => ?_)
      refine Hs.run0 300 (fun _ => by kernel_rfl) ?_
      refine Hs.bool 86 (decide (0 ≤ workM (ps.map PG.m) i)) (by kernel_rfl) (fun _ => ?_) (fun h => absurd hwas.1 (of_decide_eq_false h))
      refine Hs.rung0 [2] 300 (fun _ => by kernel_rfl) ?_
      exact Hs.ret (v := .bool (decide (workM (ps.map PG.m) i ≤ 1073741824))) Tryz.func3 (by kernel_rfl) fun w' H => ⟨by rw [decide_eq_true hwas.2], N3.only H⟩
    | succ d ih =>
      intro k hd hik hk u
      have hkl : k < ps.length := by omega
      have hih := fun u => ih (k + 1) (by omega) (by omega) (by omega) u
      clear ih
      have hwk := work_bd (ps.map PG.m) k
      have hk2 : k < (ps.map PG.m).length := by rw [List.length_map]; exact hkl
      refine Hs.run0 300 (fun _ => by kernel_rfl) ?_
      refine Hs.condP ((k : Int) < (ps.length : Int)) (by kernel_rfl) (fun _ => ?_) (fun h => by omega)
      refine Hs.run0 300 (fun _ => by kernel_rfl) ?_
      refine Hs.callV (v := .int .i64 (workM (ps.map PG.m) k)) (fun w' H => work_atL p3 (some ⟨ab, aoff, none⟩) c3 ps.length e3 k w' (N3.now H).1.1 m3) (by kernel_rfl) ?_
      refine Hs.run0 300 (fun _ => by kernel_rfl) ?_
      refine Hs.callV (v := .int .i64 (min (workM (ps.map PG.m) i + 1 + workM (ps.map PG.m) k) 1073741824)) (fun w' H => hF ⟨5, k, 0, ⟨#[]⟩⟩ _ (fork_law hc hlx h6 hik hk2) w' (Eq.mp (by kernel_rfl) H)) (by kernel_rfl) ?_
      refine Hs.run0 300 (fun _ => by kernel_rfl) ?_
      refine Hs.slot 74 (.c (.v (.bool false))) rfl ((by kernel_rfl : _ = Value.bool (!decide (min (workM (ps.map PG.m) i + 1 + workM (ps.map PG.m) k) 1073741824 = (if (1073741824 : Int) < IntKind.i64.wrap (IntKind.i64.wrap (workM (ps.map PG.m) i + 1) + workM (ps.map PG.m) k) then 1073741824 else IntKind.i64.wrap (IntKind.i64.wrap (workM (ps.map PG.m) i + 1) + workM (ps.map PG.m) k))))).trans (by rw [IntWalk.i64_in (workM (ps.map PG.m) i + 1) (by omega), min_if _ (by omega) (by omega)]; simp [SV.den, SC.den])) ?_
      refine Hs.rung0 [10] 300 (fun _ => by kernel_rfl) ?_
      refine Hs.callV (v := .int .i64 (min (1 + workM (ps.map PG.m) k) 1073741824)) (fun w' H => hF ⟨6, k, 0, ⟨#[]⟩⟩ _ (exec_law hc hlx h6 hik hk2) w' (Eq.mp (by kernel_rfl) H)) (by kernel_rfl) ?_
      refine Hs.rung0 [10] 300 (fun _ => by kernel_rfl) ?_
      refine Hs.slot 83 (.c (.v (.bool false))) rfl ((by kernel_rfl : _ = Value.bool (!decide (min (1 + workM (ps.map PG.m) k) 1073741824 = (if (1073741824 : Int) < IntKind.i64.wrap (1 + workM (ps.map PG.m) k) then 1073741824 else IntKind.i64.wrap (1 + workM (ps.map PG.m) k))))).trans (by rw [min_if _ (by omega) (by omega)]; simp [SV.den, SC.den])) ?_
      refine Hs.condF (by kernel_rfl) ?_
      refine Hs.run0 300 (fun _ => by kernel_rfl) ?_
      refine Hs.slot 9 (.c (.v (.int .i64 (k + 1 : Nat)))) rfl ((by kernel_rfl : _ = Value.int .i64 (IntKind.i64.wrap ((k : Int) + 1))).trans (wrap_nextK (by omega))) ?_
      refine Hs.loop (by kernel_rfl) ?_
      exact Hs.goto (loopAt Tryz.f3 0) [0, 1] [.b true 22 [.v (.slice A ps.length c)], .b true 3 [.v (.int .i64 (i : Nat))]] [(2, .c (.p 0 0)), (5, .c (.v (.slice (some ⟨ab, aoff, none⟩) ps.length c3))), (7, .c (.v (.int .i64 (workM (ps.map PG.m) i)))), (8, .c (.v (.func (.func 12) #[] #[.pointer (some ⟨b2, 0, none⟩), .pointer (some ⟨b6, 0, none⟩)]))), (9, .c (.v (.int .i64 (k + 1 : Nat))))] (by kernel_rfl) (by decide) (by kernel_rfl) (by kernel_rfl) (fun _ => (by kernel_rfl)) (fun u => hih u)
  refine Hs.run0 300 (fun _ => by kernel_rfl) ?_
  refine Hs.callV (v := .int .i64 (workM (ps.map PG.m) i)) (fun w' H => work_atL p3 (some ⟨ab, aoff, none⟩) c3 ps.length e3 i w' (N3.now H).1.1 m3) (by kernel_rfl) ?_
  refine Hs.run0 300 (fun _ => by kernel_rfl) ?_
  refine Hs.callV (v := .int .i64 (min (workM (ps.map PG.m) i + 1) 1073741824)) (fun w' H => hF ⟨16, 0, 0, ⟨#[]⟩⟩ _ (copy_law hc hlx h6) w' (Eq.mp (by kernel_rfl) H)) (by kernel_rfl) ?_
  refine Hs.run0 300 (fun _ => by kernel_rfl) ?_
  refine Hs.slot 47 (.c (.v (.bool false))) rfl ((by kernel_rfl : _ = Value.bool (!decide (min (workM (ps.map PG.m) i + 1) 1073741824 = (if (1073741824 : Int) < IntKind.i64.wrap (workM (ps.map PG.m) i + 1) then 1073741824 else IntKind.i64.wrap (workM (ps.map PG.m) i + 1))))).trans (by rw [min_if _ (by omega) (by omega)]; simp [SV.den, SC.den])) ?_
  refine Hs.rung0 [7] 300 (fun _ => by kernel_rfl) ?_
  refine Hs.callV (v := .int .i64 1) (fun w' H => hF ⟨1, 7, 0, ⟨#[]⟩⟩ _ (exit_law hc hlx h6) w' (Eq.mp (by kernel_rfl) H)) (by kernel_rfl) ?_
  refine Hs.rung0 [7] 300 (fun _ => by kernel_rfl) ?_
  refine Hs.condF (by kernel_rfl) ?_
  refine Hs.run0 300 (fun _ => by kernel_rfl) ?_
  refine Hs.slot 9 (.c (.v (.int .i64 (i + 1 : Nat)))) rfl ((by kernel_rfl : _ = Value.int .i64 (IntKind.i64.wrap ((i : Int) + 1))).trans (wrap_nextK (by omega))) ?_
  refine Hs.loop (by kernel_rfl) ?_
  exact Hs.goto (loopAt Tryz.f3 0) [0, 1] [.b true 22 [.v (.slice A ps.length c)], .b true 3 [.v (.int .i64 (i : Nat))]] [(2, .c (.p 0 0)), (5, .c (.v (.slice (some ⟨ab, aoff, none⟩) ps.length c3))), (7, .c (.v (.int .i64 (workM (ps.map PG.m) i)))), (8, .c (.v (.func (.func 12) #[] #[.pointer (some ⟨b2, 0, none⟩), .pointer (some ⟨b6, 0, none⟩)]))), (9, .c (.v (.int .i64 (i + 1 : Nat))))] (by kernel_rfl) (by decide) (by kernel_rfl) (by kernel_rfl) (fun _ => (by kernel_rfl)) (fun u => J (ps.length - (i + 1)) (i + 1) rfl (by omega) (by omega) u)
end Go.Proofs.YtmmcamkmglpgiaaGreatDoor

namespace Go.Proofs.YtmmcamkmglpgiaaGreatDoor
set_option linter.all false
open Go.RowKit
theorem wf_u8n {n : Int} (h : (Lit.int .u8 n).wf = true) : 0 ≤ n ∧ n < 256 := by
  simp [Lit.wf, IntKind.min, IntKind.max, IntKind.bits, IntKind.signed] at h
  omega
theorem work_lawI (ps : List PG) (A : Option Addr) (c : Nat) (R : Nat) (v : Int) (hv : (Lit.int .u8 v).wf = true) (w : World) (h : PgIn w R A c ps) (hX : laidMetH Tryz.prog Rows.programWorkRow.laid w.memory) (m : Int) (hm : w.cell? ⟨0, 0, none⟩ = some (.int .i64 m)) : Calls Tryz.prog 3 #[.slice A ps.length c, .int .u8 v] w (RetB true w) := by
  have h1 := wf_u8n hv
  obtain ⟨n, rfl⟩ : ∃ n : Nat, v = n := ⟨v.toNat, by omega⟩
  have hS0 : SLib w.memory := slib_work hX (m := m) hm
  have hS : SLib w := ⟨hS0.syn, hS0.rng, hS0.tab, hS0.max⟩
  exact work_law ps A c n (by omega) w h.pgs h.few hS
end Go.Proofs.YtmmcamkmglpgiaaGreatDoor

namespace Go.Proofs.YtmmcamkmglpgiaaGreatDoor
set_option linter.all false
open Go.ChangeShapes Go.WideShapes Go.ChangeAt Go.RowKit Go.Deep

/-- What the walk of a law is handed: the arguments read as data, how much each takes, the world's shape. -/
def LawWalkT (P : Program) (f : FuncId) (fn : Func) (X : World → Prop) : Prop :=
  ∀ (H : Type) (enc : TypeId × Value → H) (W : World) (base : Nat) (args : Array Value) (ds : List (DataW H)) (ps : List MemPlace),
    (∀ (j : Nat) t v, fn.params[j]? = some t → args[j]? = some v → Value.okWide P W .any base t v) →
    DataW.TrodAll enc P W 0 (fun _ => true) true fn.params.toList args.toList ds ps →
    (DataW.weightsEach P fn.params.toList ds).all (· ≤ reachBytes) = true →
    W.ShapedOpen P → X W.memory →
    Calls P f args W fun e W' => e = .returned (.bool true) ∧ Below W.heap.size W W'

theorem law_liftedT {C : Checked} {tb : TypeId} (own : ownKnob C.prog.godebug = none) (laidOut : laidOutB C.prog = true) (hb : C.prog.underlying tb = some .bool) (f : FuncId) (fn : Func) (s : ChangeSpec)
    (hfn : C.prog.funcs[f]? = some fn) (noInit : C.prog.inits.idxOf? f = none) (hres : fn.resultTypes = #[tb])
    (hread : readsAll C.prog fn.params.toList = true) (hv : s.vars = [])
    (hs : ∀ (H : Type) (ds : List (DataW H)), ds.length = fn.params.size → s.fn H ds = { results := [.lit (.bool true)], args := ds })
    (X : World → Prop)
    (walk : LawWalkT C.prog f fn X) (os : Os) (started : os.Started) (H : Type) (enc : TypeId × Value → H)
    (witness : ∃ (w : World) (tape : Tape) (i : Input), w.os = os ∧ (w.forCall tape i).Shaped C.prog ∧ i.vars = [] ∧ Input.okWide C.prog (w.forCall tape i) .any w.heap.size f i ∧
      ((s.pre enc C.prog fn [] false (w.forCall tape i).memory i.args ∧ X (w.forCall tape i).memory) ∧ sizedMet enc C.prog fn (OpenSpec.ofChange s) false (w.forCall tape i).memory i.args) ∧ Assume.holds {} C.prog (lone (Frame.enter C.prog f i.args .normal) [] (w.forCall tape i))) :
    ReturnsInHanded {} C os f .any (fun w args => (s.pre enc C.prog fn [] false w args ∧ X w) ∧ sizedMet enc C.prog fn (OpenSpec.ofChange s) false w args) (s.post enc C.prog fn false true false false) := by
  refine returnsInHanded_of_calls own started noInit witness ?_
  intro w tape i _ hsh _ hok hpre hholds
  obtain ⟨_, _, _, fn', hfn', _, _, _, _, hval⟩ := hok
  have e : fn' = fn := Option.some.inj (hfn'.symm.trans hfn)
  subst e
  obtain ⟨⟨⟨ds, gs, before, hw, hc⟩, hX⟩, hz⟩ := hpre
  have hW := DataW.Whole.of_heap (w' := w.forCall tape i) (by rfl) hw
  have hsz := hz.weights hw
  have hW' := hW
  obtain ⟨p, q, hA, hV, rfl, hfz, hnd⟩ := hW
  have hty : (OpenSpec.ofChange s).bare.plain.varTypes C.prog = [] := by simp [OpenSpec.ofChange, OpenSpec.bare, ChangeSpec.plain, hv, DataSpec.varTypes]
  have hV0 := hV
  rw [hv] at hV0
  obtain ⟨rfl, rfl⟩ := trodVars_none hV0
  rw [hty, List.append_nil, List.append_nil] at hsz
  have hlt := DataW.TrodAll.lt hA
  have hlen : ds.length = fn'.params.size := by have := trodAll_len _ _ _ _ hA; simpa using this
  have hfnc := hs H ds hlen
  refine (walk H enc (w.forCall tape i) w.heap.size i.args ds p hval hA hsz hsh hX).mono fun e W' ⟨he, bel⟩ => ?_
  subst he
  refine ChangeSpec.post_blind ⟨ds, [], p ++ [], [], p, [], hW', ?_, ?_, ?_, bel.frame _, fun h => by cases h⟩
  · rw [hres, List.append_nil, hfnc]
    exact trodAll_mk1 (shut_bool hb _)
  · rw [List.append_nil, hfnc]
    exact trodAll_stays laidOut bel _ _ _ _ hread hA hlt
  · rw [hv, List.append_nil, hfnc]
    rfl
end Go.Proofs.YtmmcamkmglpgiaaGreatDoor
