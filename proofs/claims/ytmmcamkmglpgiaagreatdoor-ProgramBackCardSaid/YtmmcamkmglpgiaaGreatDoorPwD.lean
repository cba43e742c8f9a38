/- Layer 19: what is printed is parsed as it was, in plain words; no condition but the length of the text · Layer 19: an operation as a line; for the operations that may be; no condition but what the library's variables hold · Layer 19: Print; for all programs; where the library's variables hold what they hold · The machine: in a drawn region, operations under guards that are met, taken wherever they come; over any program; no condition · Layer 19: the document finds programs that are the same to be the same; no condition but lengths · The machine: append to a literal of some elements; over any program; no condition · Layer 19: are programs more than are looked at; for all programs; no condition but what memory holds · The machine: a range over a function, in its plain form: where it stands, what a call of yield meets, one cell read of a row of ours where a region draws. Over any program; no condition · Layer 19: a round of Parse: what a line does to the programs in memory; for all texts that are not too long; no other condition · Layer 19: a round of Parse, walked; for all lines that are not too long; no other condition. -/
import Derived.Laws.RangeString
import Derived.Lib.AtoiTie
import Derived.Lib.ItoaNum
import Derived.Test.YtmmcamkmglpgiaaGreatDoorPwC
import Derived.Laws.Concat
import Derived.Lib.ItoaLen
import Derived.Test.YtmmcamkmglpgiaaGreatDoorPwA
import Derived.Test.YtmmcamkmglpgiaaGreatDoorEngQ
import Derived.Test.YtmmcamkmglpgiaaGreatDoorEngN
import Derived.Test.YtmmcamkmglpgiaaGreatDoorEngJ
import Derived.Test.YtmmcamkmglpgiaaGreatDoorEngAP
import Derived.Test.YtmmcamkmglpgiaaGreatDoorEngAY
import Derived.Test.YtmmcamkmglpgiaaGreatDoorEngY
namespace Go.Proofs.YtmmcamkmglpgiaaGreatDoor
open Go.RowKit Go.Shelf
set_option linter.all false
set_option maxRecDepth 100000
theorem decFrom_app : ∀ (a b : List UInt8) (acc : Nat), Lib.decFrom acc (a ++ b) = (Lib.decFrom acc a).bind fun n => Lib.decFrom n b
  | [], b, acc => rfl
  | c :: a, b, acc => by
    have e : ∀ l, Lib.decFrom acc (c :: l) = (match Lib.digitVal c with
      | some d => Lib.decFrom (acc * 10 + d) l
      | none => none) := fun l => rfl
    rw [List.cons_append, e, e]
    cases Lib.digitVal c with
    | none => rfl
    | some d => exact decFrom_app a b _
theorem digit_of {d : Nat} (h : d < 10) : Lib.digitVal (UInt8.ofNat (48 + d)) = some d := by
  have : d = 0 ∨ d = 1 ∨ d = 2 ∨ d = 3 ∨ d = 4 ∨ d = 5 ∨ d = 6 ∨ d = 7 ∨ d = 8 ∨ d = 9 := by omega
  rcases this with rfl | rfl | rfl | rfl | rfl | rfl | rfl | rfl | rfl | rfl <;> rfl
theorem decFrom_dig {acc d : Nat} (h : d < 10) : Lib.decFrom acc [UInt8.ofNat (48 + d)] = some (acc * 10 + d) := by
  unfold Lib.decFrom
  rw [digit_of h]
  rfl
theorem dec_digits (u : Nat) : Lib.decFrom 0 (Lib.decDigits u) = some u := by
  induction u using Nat.strongRecOn with
  | _ u ih =>
    rw [Lib.decDigits]
    by_cases h : u < 10
    · rw [dif_pos h, decFrom_dig h]
      simp
    · rw [dif_neg h, decFrom_app, ih (u / 10) (by omega)]
      show Lib.decFrom (u / 10) [_] = _
      rw [decFrom_dig (by omega)]
      congr 1
      omega
theorem digits_in {u : Nat} {b : UInt8} (h : b ∈ Lib.decDigits u) : 48 ≤ b.toNat ∧ b.toNat ≤ 57 := by
  obtain ⟨k, hk⟩ := List.getElem?_of_mem h
  obtain ⟨d, hd⟩ := Lib.digit_of_decFrom _ _ _ (dec_digits u) k b hk
  have := Lib.digitVal_eq hd
  exact ⟨this.1, this.2.1⟩
theorem digits_len (k : Nat) : ∀ u : Nat, u < 10 ^ (k + 1) → (Lib.decDigits u).length ≤ k + 1 := by
  induction k with
  | zero =>
    intro u h
    rw [Lib.decDigits, dif_pos (by simpa using h)]
    simp
  | succ k ih =>
    intro u h
    rw [Lib.decDigits]
    by_cases h2 : u < 10
    · rw [dif_pos h2]; simp
    · rw [dif_neg h2]
      have := ih (u / 10) (by rw [Nat.pow_succ] at h; omega)
      simp
      omega
theorem atoi_itoa {n : Int} (h0 : 0 ≤ n) (h1 : n ≤ 999999) : Lib.atoiAll (Lib.itoa n) = .ok n := by
  obtain ⟨u, rfl⟩ : ∃ u : Nat, n = u := ⟨n.toNat, by omega⟩
  have e : Lib.itoa (u : Int) = Lib.decDigits u := by
    unfold Lib.itoa
    rw [if_neg (by omega), Int.toNat_natCast]
  have hl := digits_len 5 u (by omega)
  have hd := dec_digits u
  rw [e, Lib.atoiAll_short _ (by omega)]
  have hin : ∀ b ∈ Lib.decDigits u, 48 ≤ b.toNat ∧ b.toNat ≤ 57 := fun b hb => digits_in hb
  cases hL : Lib.decDigits u with
  | nil =>
    have : (Lib.decDigits u).length ≠ 0 := by
      rw [Lib.decDigits]
      by_cases h2 : u < 10
      · rw [dif_pos h2]; simp
      · rw [dif_neg h2]; simp
    rw [hL] at this
    exact absurd rfl this
  | cons b r =>
    rw [hL] at hin hd
    have hb := hin b (by simp)
    have h45 : (b == 45) = false := by
      rw [beq_eq_false_iff_ne]
      rintro rfl
      exact absurd hb.1 (by decide)
    have h43 : (b == 43) = false := by
      rw [beq_eq_false_iff_ne]
      rintro rfl
      exact absurd hb.1 (by decide)
    have e1 : Lib.decNat (b :: r) = some u := by
      unfold Lib.decNat
      rw [if_neg (by simp), hd]
    have e2 : Lib.atoi (b :: r) = some (u : Int) := by
      show (if b == 45 then _ else if b == 43 then _ else (Lib.decNat (b :: r)).map fun (m : Nat) => (m : Int)) = _
      rw [h45, h43, e1]
      rfl
    rw [e2]
    rfl
theorem num_itoa {n : Int} (h0 : 0 ≤ n) (h1 : n ≤ 999999) : numOk (Lib.itoa n) = true ∧ atoiN (Lib.itoa n) = n := by
  have h := atoi_itoa h0 h1
  have e1 : atoiN (Lib.itoa n) = n := by unfold atoiN; rw [h]
  refine ⟨?_, e1⟩
  unfold numOk
  rw [e1, show atoiE (Lib.itoa n) = true by unfold atoiE; rw [h]]
  simp [withinB]
  exact ⟨h0, h1⟩
theorem itoa_in {n : Int} (h0 : 0 ≤ n) {b : UInt8} (h : b ∈ Lib.itoa n) : 48 ≤ b.toNat ∧ b.toNat ≤ 57 := by
  unfold Lib.itoa at h
  rw [if_neg (by omega)] at h
  exact digits_in h
theorem writ_big : ∀ n : Fin 256, ∀ b ∈ writB (UInt8.ofNat n.val), 32 < b.toNat := by decide +kernel
theorem writ_in {s : List UInt8} {b : UInt8} (h : b ∈ writL s) : 32 < b.toNat := by
  unfold writL at h
  obtain ⟨c, _, hb⟩ := List.mem_flatMap.1 h
  exact u8_all (p := fun c => ∀ b ∈ writB c, 32 < b.toNat) writ_big c b hb
theorem writ_hex : ∀ n : Fin 256, (digI (hexD ((UInt8.ofNat n.val).toNat / 16)).toNat = ((UInt8.ofNat n.val).toNat / 16 : Nat) ∧ digI (hexD ((UInt8.ofNat n.val).toNat % 16)).toNat = ((UInt8.ofNat n.val).toNat % 16 : Nat)) := by decide +kernel
theorem readB_self (k : Nat) (c : UInt8) (l out : List UInt8) (h : itselfB c = true) : readB (k + 1) (c :: l) out = readB k l (out ++ [c]) := by
  show (match itselfB c with | true => readB k l (out ++ [c]) | false => _) = _
  rw [h]
theorem writ_read : ∀ (s : List UInt8) (k : Nat) (out : List UInt8), (writL s).length < k → readB k (writL s) out = some (out ++ s)
  | [], k + 1, out, _ => by simp [writL, readB]
  | c :: s, k + 1, out, h => by
    have e : writL (c :: s) = writB c ++ writL s := rfl
    rw [e] at h ⊢
    cases hi : itselfB c with
    | true =>
      have ew : writB c = [c] := by unfold writB; rw [if_pos hi]
      rw [ew] at h ⊢
      rw [List.singleton_append, readB_self k c _ _ hi, writ_read s k (out ++ [c]) (by simp at h; omega)]
      simp
    | false =>
      have ew : writB c = [92, hexD (c.toNat / 16), hexD (c.toNat % 16)] := by unfold writB; rw [if_neg (by rw [hi]; decide)]
      rw [ew] at h ⊢
      obtain ⟨h1, h2⟩ := u8_all (p := fun c => digI (hexD (c.toNat / 16)).toNat = (c.toNat / 16 : Nat) ∧ digI (hexD (c.toNat % 16)).toNat = (c.toNat % 16 : Nat)) writ_hex c
      have hc := c.toNat_lt
      show readB (k + 1) (92 :: hexD (c.toNat / 16) :: hexD (c.toNat % 16) :: writL s) out = _
      rw [readB_esc k 92 _ out (by decide)]
      dsimp only
      rw [show (!decide (((92 : UInt8).toNat : Int) = 92)) = false by decide, h1, h2]
      dsimp only
      rw [decide_eq_false (by omega), decide_eq_false (by omega)]
      have hv : hexV ((c.toNat / 16 : Nat) : Int) ((c.toNat % 16 : Nat) : Int) = (c.toNat : Int) := by
        rw [hexV_in (by omega) (by omega)]
        omega
      rw [hv, show itselfI (c.toNat : Int) = false from hi]
      dsimp only
      have e2 : (c.toNat : Int).toNat.toUInt8 = c := by
        rw [Int.toNat_natCast]
        exact UInt8.ofNat_toNat
      rw [e2]
      show readB k (writL s) (out ++ [c]) = _
      rw [writ_read s k (out ++ [c]) (by simp at h; omega)]
      simp
/-- What of an operation a line tells. -/
structure OpFit (o : OP9) (k : Nat) (r : SoR) : Prop where
  kk : o.k = k
  k1 : 1 ≤ k
  row : sortRows[k]? = some r
  a : r.2.1 = 1 ∨ r.2.1 = 2 → 0 ≤ o.a ∧ o.a ≤ 999999
  b : r.2.1 = 2 → 0 ≤ o.b ∧ o.b ≤ 999999
  a0 : r.2.1 = 0 ∨ r.2.1 = 3 → o.a = 0
  b0 : r.2.1 ≠ 2 → o.b = 0
  t0 : r.2.1 ≠ 3 → o.t = ⟨#[]⟩
theorem textE_no {t : ByteArray} (h : textE t = false) : t = ⟨#[]⟩ := by
  unfold textE at h
  have h2 : t.toList = (⟨#[]⟩ : ByteArray).toList := by simpa using h
  rw [ByteArray.toList_eq, ByteArray.toList_eq] at h2
  exact bytes_extS h2
theorem isS_bd {n : Int} (h : isS n = true) : 0 ≤ n ∧ n ≤ 999999 := by
  unfold isS at h
  simp only [Bool.or_eq_true, Bool.and_eq_true, decide_eq_true_eq] at h
  omega
theorem isF_bd {n : Int} (h : isFlagB n = true) : 0 ≤ n ∧ n ≤ 999999 := by
  unfold isFlagB at h
  simp only [Bool.or_eq_true, Bool.and_eq_true, decide_eq_true_eq] at h
  omega
theorem within_bd {n lo hi : Int} (h : withinB n lo hi = true) : lo ≤ n ∧ n ≤ hi := by
  unfold withinB at h
  simpa using h
theorem ask_fit (k : Nat) (a b p q : Int) (t : ByteArray) (hp : 0 ≤ p) (hq : q ≤ 32) (hk : k = 1 ∨ k = 2 ∨ k = 3 ∨ k = 4 ∨ k = 5 ∨ k = 6 ∨ k = 7 ∨ k = 8 ∨ k = 9 ∨ k = 10 ∨ k = 11 ∨ k = 12 ∨ k = 13 ∨ k = 14 ∨ k = 15 ∨ k = 16) (h : askB k p q ⟨(k : Nat), a, b, t⟩ = true) : (shN k = 1 ∨ shN k = 2 → 0 ≤ a ∧ a ≤ 999999) ∧ (shN k = 2 → 0 ≤ b ∧ b ≤ 999999) := by
  rcases hk with rfl | rfl | rfl | rfl | rfl | rfl | rfl | rfl | rfl | rfl | rfl | rfl | rfl | rfl | rfl | rfl
  · have := within_bd (show withinB a 0 255 = true from h); exact ⟨fun _ => by omega, fun h => absurd h (by decide)⟩
  · exact ⟨fun h => absurd h (by decide), fun h => absurd h (by decide)⟩
  · exact ⟨fun h => absurd h (by decide), fun h => absurd h (by decide)⟩
  · have := within_bd (show withinB a 1 1024 = true from h); exact ⟨fun _ => by omega, fun h => absurd h (by decide)⟩
  · have h2 : laterB p q a = true := h
    unfold laterB at h2
    simp only [Bool.and_eq_true, decide_eq_true_eq] at h2
    exact ⟨fun _ => by omega, fun h => absurd h (by decide)⟩
  · have h2 : laterB p q a = true := h
    unfold laterB at h2
    simp only [Bool.and_eq_true, decide_eq_true_eq] at h2
    exact ⟨fun _ => by omega, fun h => absurd h (by decide)⟩
  · have := within_bd (show withinB a 0 3 = true from h); exact ⟨fun _ => by omega, fun h => absurd h (by decide)⟩
  · have h2 : (withinB a 0 4 && isS b) = true := h
    rw [Bool.and_eq_true] at h2
    have := within_bd h2.1
    exact ⟨fun _ => by omega, fun _ => isS_bd h2.2⟩
  · have := within_bd (show withinB a 0 2 = true from h); exact ⟨fun _ => by omega, fun h => absurd h (by decide)⟩
  · exact ⟨fun h => absurd h (by decide), fun h => absurd h (by decide)⟩
  · have := within_bd (show withinB a 0 1 = true from h); exact ⟨fun _ => by omega, fun h => absurd h (by decide)⟩
  · have h2 : (isS a && (!sureB a && withinB b 0 2)) = true := h
    simp only [Bool.and_eq_true] at h2
    have := within_bd h2.2.2
    exact ⟨fun _ => isS_bd h2.1, fun _ => by omega⟩
  · have h2 : (isS a && withinB b 0 1) = true := h
    rw [Bool.and_eq_true] at h2
    have := within_bd h2.2
    exact ⟨fun _ => isS_bd h2.1, fun _ => by omega⟩
  · have := within_bd (show withinB a 0 1000 = true from h); exact ⟨fun _ => by omega, fun h => absurd h (by decide)⟩
  · have h2 : (isFlagB a && withinB b 0 1) = true := h
    rw [Bool.and_eq_true] at h2
    have := within_bd h2.2
    exact ⟨fun _ => isF_bd h2.1, fun _ => by omega⟩
  · exact ⟨fun h => absurd h (by decide), fun h => absurd h (by decide)⟩
theorem sh_row (k : Nat) (h1 : 1 ≤ k) (h2 : k ≤ 16) : ∃ r, sortRows[k]? = some r ∧ r.2.1 = (shN k : Int) ∧ ixI r.1 = k ∧ (∃ c s, r.1 = c :: s ∧ c ≠ 112) ∧ (∀ b ∈ r.1, 32 < b.toNat) ∧ shK k = r.2.1 := by
  have hk : k = 1 ∨ k = 2 ∨ k = 3 ∨ k = 4 ∨ k = 5 ∨ k = 6 ∨ k = 7 ∨ k = 8 ∨ k = 9 ∨ k = 10 ∨ k = 11 ∨ k = 12 ∨ k = 13 ∨ k = 14 ∨ k = 15 ∨ k = 16 := by omega
  rcases hk with rfl | rfl | rfl | rfl | rfl | rfl | rfl | rfl | rfl | rfl | rfl | rfl | rfl | rfl | rfl | rfl <;> exact ⟨_, rfl, rfl, by kernel_rfl, ⟨_, _, rfl, by decide⟩, by decide, rfl⟩
theorem right_fit {o : OP9} {p q : Int} (hp : 0 ≤ p) (hq : q ≤ 32) (h : rightB o p q = true) : ∃ k r, OpFit o k r ∧ k ≤ 16 := by
  obtain ⟨kk, a, b, t⟩ := o
  unfold rightB at h
  rw [Bool.and_eq_true] at h
  have hw := within_bd h.1
  have h2 := h.2
  dsimp only at h2 hw
  obtain ⟨k, rfl⟩ : ∃ k : Nat, kk = k := ⟨kk.toNat, by omega⟩
  rw [Int.toNat_natCast] at h2
  obtain ⟨r, hr, hs, -, -, -, -⟩ := sh_row k (by omega) (by omega)
  unfold restB at h2
  simp only [Bool.and_eq_true, Bool.not_eq_true', Bool.and_eq_false_imp, Bool.not_eq_true', Nat.beq_eq_true_eq] at h2
  obtain ⟨ht, hb, ha, hq2⟩ := h2
  have hf := ask_fit k a b p q t hp hq (by omega) hq2
  have sne : ∀ j : Nat, shN k ≠ j → (Nat.beq (shN k) j) = false := fun j hj => by
    cases e : Nat.beq (shN k) j with
    | false => rfl
    | true => exact absurd (Nat.eq_of_beq_eq_true e) hj
  refine ⟨k, r, ⟨rfl, by omega, hr, fun h => hf.1 (by omega), fun h => hf.2 (by omega), fun h => ?_, fun h => ?_, fun h => ?_⟩, by omega⟩
  · have := ha ⟨sne 2 (by omega), sne 1 (by omega)⟩
    simpa using this
  · have := hb (sne 2 (by omega))
    simpa using this
  · have := ht (sne 3 (by omega))
    exact textE_no this
theorem op_fit {o : OP9} {k : Nat} {r : SoR} (F : OpFit o k r) (h16 : k ≤ 16) : opB (lineL o) = (o, true) ∧ isHead (lineL o) = false ∧ ∀ b ∈ lineL o, b ≠ 10 := by
  obtain ⟨r2, hr, hs, hix, ⟨c, cs, hc, hc2⟩, hw, hK⟩ := sh_row k F.k1 h16
  obtain rfl : r2 = r := by have := F.row; rw [hr] at this; injection this
  have hrow : lineL o = _ := lineL_row (o := o) (r := r2) (by rw [F.kk, Int.toNat_natCast]; exact hr)
  have hw32 : ∀ b ∈ r2.1, b ≠ 32 := fun b hb e => by have := hw b hb; rw [e] at this; exact absurd this (by decide)
  have hw10 : ∀ b ∈ r2.1, b ≠ 10 := fun b hb e => by have := hw b hb; rw [e] at this; exact absurd this (by decide)
  have h1 : ¬ ixI r2.1 < 1 := by rw [hix]; have := F.k1; omega
  have hsc := sh_cases hr
  have hhead : isHead (lineL o) = false := by
    rw [hrow, hc]
    unfold isHead Lib.hasPrefix headL
    simp [List.isPrefixOf, Ne.symm hc2]
  refine ⟨?_, hhead, ?_⟩
  · unfold opB
    rcases hsc with e | e | e | e
    · have hl : lineL o = r2.1 := by rw [hrow, e]; simp
      rw [hl, cutS_one hw32, opW_cons, decide_eq_false h1, hix, hK, e]
      dsimp only
      rw [show ((0 : Int) == 3) = false from rfl]
      dsimp only
      rw [show decide (((([] : List (List UInt8)).length + 1 : Nat) : Int) = 1 + 0) = true from rfl]
      dsimp only
      unfold opN
      dsimp only
      obtain ⟨ok, oa, ob, ot⟩ := o
      have e1 := F.kk; have e2 := F.a0 (.inl e); have e3 := F.b0 (by rw [e]; decide); have e4 := F.t0 (by rw [e]; decide)
      dsimp only at e1 e2 e3 e4
      rw [e1, e2, e3, e4]
    · have ha := F.a (.inl e)
      have hl : lineL o = r2.1 ++ 32 :: Lib.itoa o.a := by rw [hrow, e]; simp
      have hn := num_itoa ha.1 ha.2
      rw [hl, cutS_app hw32, cutS_one (fun b hb e => by have := itoa_in ha.1 hb; rw [e] at this; exact absurd this.1 (by decide)), opW_cons, decide_eq_false h1, hix, hK, e]
      dsimp only
      rw [show ((1 : Int) == 3) = false from rfl]
      dsimp only
      rw [show decide ((([Lib.itoa o.a].length + 1 : Nat) : Int) = 1 + 1) = true from rfl]
      dsimp only
      unfold opN
      dsimp only
      rw [hn.1, hn.2]
      obtain ⟨ok, oa, ob, ot⟩ := o
      have e1 := F.kk; have e3 := F.b0 (by rw [e]; decide); have e4 := F.t0 (by rw [e]; decide)
      dsimp only at e1 e3 e4 ⊢
      rw [e1, e3, e4]
    · have ha := F.a (.inr e)
      have hb := F.b e
      have hl : lineL o = r2.1 ++ 32 :: (Lib.itoa o.a ++ 32 :: Lib.itoa o.b) := by rw [hrow, e]; simp
      have hn := num_itoa ha.1 ha.2
      have hn2 := num_itoa hb.1 hb.2
      rw [hl, cutS_app hw32, cutS_app (fun b hb e => by have := itoa_in ha.1 hb; rw [e] at this; exact absurd this.1 (by decide)), cutS_one (fun b hb2 e => by have := itoa_in hb.1 hb2; rw [e] at this; exact absurd this.1 (by decide)), opW_cons, decide_eq_false h1, hix, hK, e]
      dsimp only
      rw [show ((2 : Int) == 3) = false from rfl]
      dsimp only
      rw [show decide ((([Lib.itoa o.a, Lib.itoa o.b].length + 1 : Nat) : Int) = 1 + 2) = true from rfl]
      dsimp only
      unfold opN
      dsimp only
      rw [hn.1, hn.2]
      dsimp only
      rw [hn2.1, hn2.2]
      obtain ⟨ok, oa, ob, ot⟩ := o
      have e1 := F.kk; have e4 := F.t0 (by rw [e]; decide)
      dsimp only at e1 e4 ⊢
      rw [e1, e4]
    · have hl : lineL o = r2.1 ++ 32 :: writL o.t.data.toList := by rw [hrow, e]; simp
      rw [hl, cutS_app hw32, cutS_one (fun b hb e => by have := writ_in hb; rw [e] at this; exact absurd this (by decide)), opW_cons, decide_eq_false h1, hix, hK, e]
      dsimp only
      rw [show ((3 : Int) == 3) = true from rfl]
      dsimp only
      unfold opT
      dsimp only
      rw [writ_read _ _ _ (by omega)]
      obtain ⟨ok, oa, ob, ot⟩ := o
      have e1 := F.kk; have e2 := F.a0 (.inr e); have e3 := F.b0 (by rw [e]; decide)
      dsimp only at e1 e2 e3 ⊢
      rw [e1, e2, e3, List.nil_append, ← strL_of]
  · intro b hb
    rw [hrow] at hb
    rcases hsc with e | e | e | e
    · rw [e] at hb
      have hb : b ∈ r2.1 := by simpa using hb
      exact hw10 b hb
    · rw [e] at hb
      have hb : b ∈ r2.1 ∨ b = 32 ∨ b ∈ Lib.itoa o.a := by simpa using hb
      rcases hb with hb | rfl | hb
      · exact hw10 b hb
      · decide
      · have := itoa_in (F.a (.inl e)).1 hb
        rintro rfl
        exact absurd this.1 (by decide)
    · rw [e] at hb
      have hb : b ∈ r2.1 ∨ b = 32 ∨ b ∈ Lib.itoa o.a ∨ b = 32 ∨ b ∈ Lib.itoa o.b := by simpa using hb
      rcases hb with hb | rfl | hb | rfl | hb
      · exact hw10 b hb
      · decide
      · have := itoa_in (F.a (.inr e)).1 hb
        rintro rfl
        exact absurd this.1 (by decide)
      · decide
      · have := itoa_in (F.b e).1 hb
        rintro rfl
        exact absurd this.1 (by decide)
    · rw [e] at hb
      have hb : b ∈ r2.1 ∨ b = 32 ∨ b ∈ writL o.t.data.toList := by simpa using hb
      rcases hb with hb | rfl | hb
      · exact hw10 b hb
      · decide
      · have := writ_in hb
        rintro rfl
        exact absurd this (by decide)
/-- A name that may be: letters and digits alone. -/
theorem dropW_all {p : UInt8 → Bool} : ∀ {l : List UInt8}, l.dropWhile p = [] → ∀ b ∈ l, p b = true
  | [], _, b, h => by cases h
  | c :: l, h, b, hb => by
    rw [List.dropWhile_cons] at h
    split at h
    · rename_i hc
      rcases List.mem_cons.1 hb with rfl | hb
      · exact hc
      · exact dropW_all h b hb
    · cases h
theorem trimS_nil {l cs : List UInt8} (h : Lib.trimS l cs = []) : ∀ b ∈ l, cs.contains b = true := by
  unfold Lib.trimS Lib.trimLeftS at h
  have h1 := dropW_all h
  unfold Lib.trimRightS at h1
  intro b hb
  by_cases hm : b ∈ l.reverse.dropWhile (cs.contains ·)
  · exact h1 b (by simpa using hm)
  · have := List.takeWhile_append_dropWhile (p := (cs.contains ·)) (l := l.reverse)
    have hb2 : b ∈ l.reverse := by simpa using hb
    rw [← this] at hb2
    rcases List.mem_append.1 hb2 with h3 | h3
    · exact List.all_eq_true.1 (List.all_takeWhile) b h3
    · exact absurd h3 hm
theorem nm_chars {t : ByteArray} (h : nmB t = true) : ∀ b ∈ t.data.toList, b ∈ alnumL := by
  unfold nmB at h
  simp only [Bool.and_eq_true] at h
  have h2 := h.2.2
  rw [str_cmp0] at h2
  have h3 : Lib.trimS t.data.toList alnumL = [] := by simpa using h2
  intro b hb
  simpa using trimS_nil h3 b hb
theorem alnum_in {b : UInt8} (h : b ∈ alnumL) : 48 ≤ b.toNat ∧ b.toNat ≤ 122 := by
  unfold alnumL at h
  simp only [List.mem_cons, List.not_mem_nil, or_false] at h
  rcases h with rfl | rfl | rfl | rfl | rfl | rfl | rfl | rfl | rfl | rfl | rfl | rfl | rfl | rfl | rfl | rfl | rfl | rfl | rfl | rfl | rfl | rfl | rfl | rfl | rfl | rfl | rfl | rfl | rfl | rfl | rfl | rfl | rfl | rfl | rfl | rfl <;> decide
theorem idx_none {s : ByteArray} (h : ∀ b ∈ s.data.toList, 48 ≤ b.toNat ∧ b.toNat ≤ 122) : ∀ (f pos : Nat), Lib.idxFuncFrom (fun c : Nat => badR c) true s f pos = -1
  | 0, pos => rfl
  | f + 1, pos => by
    unfold Lib.idxFuncFrom
    split
    · rename_i hp
      have hm : s[pos]'hp ∈ s.data.toList := by
        show s.data[pos]'hp ∈ _
        simp
      have hb := h _ hm
      rw [decode_ascii s pos hp (by omega)]
      dsimp only
      have e : badR ((s[pos]'hp).toNat : Int) = false := by
        unfold badR
        rw [decide_eq_false (by omega), decide_eq_false (by omega)]
        rfl
      rw [e, if_neg (by decide)]
      exact idx_none h f _
    · rfl
theorem bad_nm {t : ByteArray} (h : nmB t = true) : badName t.data.toList = false := by
  unfold badName Lib.idxFunc
  rw [idx_none (s := strL t.data.toList) fun b hb => alnum_in (nm_chars h b hb)]
  rfl
theorem lines_one : ∀ {y s : List UInt8}, (∀ b ∈ y, b ≠ 10) → linesB (y ++ 10 :: s) = (y ++ [10]) :: linesB s
  | [], s, _ => by
    rw [List.nil_append]
    conv => lhs; unfold linesB
    rw [if_pos rfl]
    rfl
  | c :: y, s, h => by
    have ih := lines_one (y := y) (s := s) fun b hb => h b (by simp [hb])
    rw [List.cons_append]
    conv => lhs; unfold linesB
    rw [if_neg (h c (by simp)), ih]
    rfl
theorem ops_back : ∀ {ops : List OP9} {l : List PM} {m : PM} {rest : List UInt8}, (∀ o ∈ ops, opB (lineL o) = (o, true) ∧ isHead (lineL o) = false ∧ ∀ b ∈ lineL o, b ≠ 10) → foldP (l ++ [m]) (linesB (opLn ops ++ rest)) = foldP (l ++ [(m.1, m.2 ++ ops)]) (linesB rest)
  | [], l, m, rest, _ => by
    rw [show opLn [] = [] from rfl, List.nil_append, List.append_nil]
  | o :: ops, l, m, rest, h => by
    obtain ⟨h1, h2, h3⟩ := h o (by simp)
    have e : opLn (o :: ops) ++ rest = lineL o ++ 10 :: (opLn ops ++ rest) := by simp [opLn]
    rw [e, lines_one h3]
    have hs : stepP (l ++ [m]) (lineL o ++ [10]) = some (l ++ [(m.1, m.2 ++ [o])]) := by
      unfold stepP stepX
      rw [suffix_ten, h2]
      dsimp only
      rw [h1]
      exact addOp_app o m l
    show (match stepP (l ++ [m]) (lineL o ++ [10]) with
      | some l' => foldP l' (linesB (opLn ops ++ rest))
      | none => none) = _
    rw [hs]
    dsimp only
    rw [ops_back (m := (m.1, m.2 ++ [o])) fun o ho => h o (by simp [ho])]
    simp
theorem all_back : ∀ {ms : List PM} {l : List PM}, (∀ m ∈ ms, nmB m.1 = true ∧ ∀ o ∈ m.2, opB (lineL o) = (o, true) ∧ isHead (lineL o) = false ∧ ∀ b ∈ lineL o, b ≠ 10) → foldP l (linesB (printL ms)) = some (l ++ ms)
  | [], l, _ => by simp [printL, linesB, foldP]
  | m :: ms, l, h => by
    obtain ⟨h1, h2⟩ := h m (by simp)
    have e : printL (m :: ms) = (headL ++ m.1.data.toList) ++ 10 :: (opLn m.2 ++ printL ms) := by simp [printL, progL]
    have hn : ∀ b ∈ headL ++ m.1.data.toList, b ≠ 10 := fun b hb => by
      rcases List.mem_append.1 hb with hb | hb
      · unfold headL at hb
        simp only [List.mem_cons, List.not_mem_nil, or_false] at hb
        rcases hb with rfl | rfl | rfl | rfl | rfl <;> decide
      · have := alnum_in (nm_chars h1 b hb)
        rintro rfl
        exact absurd this.1 (by decide)
    rw [e, lines_one hn]
    have hh : isHead (headL ++ m.1.data.toList) = true := by
      unfold isHead Lib.hasPrefix
      rw [List.isPrefixOf_iff_prefix]
      exact ⟨_, rfl⟩
    have hbh : behind (headL ++ m.1.data.toList) = m.1.data.toList := by
      have := head_behind hh
      exact List.append_cancel_left this
    have hs : stepP l ((headL ++ m.1.data.toList) ++ [10]) = some (l ++ [(m.1, [])]) := by
      unfold stepP stepX
      rw [suffix_ten, hh]
      dsimp only
      rw [hbh, bad_nm h1, ← strL_of]
    show (match stepP l ((headL ++ m.1.data.toList) ++ [10]) with
      | some l' => foldP l' (linesB (opLn m.2 ++ printL ms))
      | none => none) = _
    rw [hs]
    dsimp only
    rw [ops_back h2, all_back fun m hm => h m (by simp [hm])]
    simp
theorem prog_end (m : PM) : ∃ t, progL m = t ++ [10] := by
  rcases List.eq_nil_or_concat m.2 with h | ⟨l, o, h⟩
  · exact ⟨headL ++ m.1.data.toList, by simp [progL, h, opLn]⟩
  · exact ⟨headL ++ m.1.data.toList ++ [10] ++ (opLn l ++ lineL o), by simp [progL, h, opLn]⟩
theorem print_end {l : List PM} (h : l ≠ []) : endsN (printL l) = true := by
  obtain ⟨a, m, rfl⟩ := List.eq_nil_or_concat l |>.resolve_left h
  obtain ⟨t, ht⟩ := prog_end m
  unfold endsN Lib.hasSuffix
  rw [List.isSuffixOf_iff_suffix]
  refine ⟨printL a ++ t, ?_⟩
  rw [List.concat_eq_append, printL_app, List.append_assoc, ← ht]
  simp [printL]
/-- What is printed is parsed as it was. -/
theorem print_parse {l : List PM} (h : checkM l = 0) (hl : (printL l).length ≤ 262144) : parseM (printL l) = (some l, 0) := by
  have hn := check_len h
  have hne : l ≠ [] := by rintro rfl; simp at hn
  unfold parseM
  rw [decide_eq_false (by omega), print_end hne]
  dsimp only
  rw [show (!(printL l).isEmpty && !true) = false by simp]
  dsimp only
  rw [all_back (l := []) fun m hm => ?_]
  · dsimp only
    rw [List.nil_append, if_pos h]
  · obtain ⟨k, hk⟩ := List.getElem?_of_mem hm
    obtain ⟨h1, _, h3⟩ := check_prog h hk
    refine ⟨h1, fun o ho => ?_⟩
    obtain ⟨j, r, F, hj⟩ := right_fit (by omega) (by omega) (h3 o ho)
    exact op_fit F hj
end Go.Proofs.YtmmcamkmglpgiaaGreatDoor

namespace Go.Proofs.YtmmcamkmglpgiaaGreatDoor
open Go.RowKit
set_option linter.all false
set_option maxRecDepth 100000
theorem strL_add (a b : List UInt8) : strL a ++ strL b = strL (a ++ b) := by
  apply ByteArray.ext
  simp [strL]
section
variable {P : Program} {f : FR} {R : Ending → World → Prop} {n : Nat} {w0 : World} {L : List Nat} {β : List Nat} {m : SM}
/-- Two texts, one behind the other. -/
theorem Hs.cat {T : TypeId} (a b : List UInt8) (hl : a.length + b.length ≤ 9223372036854775807) (hs : semOf n β m = some (valS (binOp .add T (.string (strL a)) (.string (strL b))))) (h : Hs P f R n w0 L β (m.put (dstOf m) (.c (.v (.string (strL (a ++ b))))) m.hp)) : Hs P f R n w0 L β m :=
  Hs.opV (.c (.v (.string (strL (a ++ b))))) hs rfl (fun w H => by
    show (Op.stringOp .add (strL a) (strL b)).run P w = _
    have e := run_string_add_sum (P := P) w (strL a) (strL b) hl
    rw [strL_add] at e
    exact e) h
theorem Hs.takeCat (j : Nat) {T : TypeId} (a b : List UInt8) {rd : List Nat} (hl : a.length + b.length ≤ 9223372036854775807) (hs : semAt j n β m = some (valS (binOp .add T (.string (strL a)) (.string (strL b))), rd)) (k : Hs P f R n w0 L β (takeM j (.c (.v (.string (strL (a ++ b))))) m)) : Hs P f R n w0 L β m :=
  Hs.takeV j (.c (.v (.string (strL (a ++ b))))) hs rfl (fun w _ => by
    have e := run_string_add_sum (P := P) w (strL a) (strL b) hl
    rw [strL_add] at e
    exact e) k
end
theorem itoa_len {n : Int} (h0 : -9223372036854775808 ≤ n) (h1 : n ≤ 9223372036854775807) : (Lib.itoa n).length ≤ 21 := Lib.itoa_length_le n h0 h1
abbrev LineR (l : List UInt8) (w : World) : Ending → World → Prop := fun e w' => e = .returned (.string (strL l)) ∧ Only [] w w'
set_option maxHeartbeats 4000000 in
theorem line_1 (a b : Int) (t : ByteArray) (w : World) (hS : SLib w) (h0 : -9223372036854775808 ≤ a) (h1 : a ≤ 9223372036854775807) : Calls Tryz.prog 24 #[opA ⟨1, a, b, t⟩] w (LineR ([101, 120, 105, 116, 32] ++ Lib.itoa a) w) := by
  refine Hs.enter Tryz.func24 [] [] [] [.g [.v (.int .i64 1), .v (.int .i64 a), .v (.int .i64 b), .v (.string t)]] (Mem.start0 w) (by kernel_rfl) (by kernel_rfl) ?_
  refine Hs.run1 300 (fun _ => by kernel_rfl) fun b0 => ?_
  refine Hs.any [0] (by kernel_rfl) ?_
  refine Hs.run0 300 (fun _ => by kernel_rfl) ?_
  apply Hs.share1 (β' := [] ++ [b0])
  · intro K
    refine Hs.branch2 0 4 (by kernel_rfl) ?_ ?_
    · refine Hs.callV (v := .agg sortC.toArray) (fun w' H => sorts_any w') (by kernel_rfl) ?_
      refine Hs.run1 300 (fun _ => by kernel_rfl) fun b1 => ?_
      exact K b1
    · refine Hs.run1 300 (fun _ => by kernel_rfl) fun b1 => ?_
      refine Hs.callV (v := .agg sortC.toArray) (fun w' H => sorts_any w') (by kernel_rfl) ?_
      refine Hs.run0 300 (fun _ => by kernel_rfl) ?_
      exact Hs.eqM (K b1) (by kernel_rfl) (by kernel_rfl)
  intro b1
  refine Hs.run0 300 (fun _ => by kernel_rfl) ?_
  refine Hs.condT (by kernel_rfl) ?_
  refine Hs.run0 300 (fun _ => by kernel_rfl) ?_
  refine Hs.any [0, 1] (by kernel_rfl) ?_
  refine Hs.run0 300 (fun _ => by kernel_rfl) ?_
  refine Hs.callV (v := .string (strL (Lib.itoa a))) (fun w' H => itoa_any a h0 h1 w' (hS.only H.only)) (by kernel_rfl) ?_
  refine Hs.takeCat (T := 9) (rd := [0, 1]) 6 [101, 120, 105, 116, 32] (Lib.itoa a) (by have := itoa_len h0 h1; simp; omega) (by kernel_rfl) ?_
  refine Hs.run0 300 (fun _ => by kernel_rfl) ?_
  exact Hs.ret (v := .string (strL ([101, 120, 105, 116, 32] ++ Lib.itoa a))) Tryz.func24 (by kernel_rfl) fun w' H => ⟨rfl, H.only⟩
set_option maxHeartbeats 4000000 in
theorem line_2 (a b : Int) (t : ByteArray) (w : World) (ht : t.size ≤ 1024) : Calls Tryz.prog 24 #[opA ⟨2, a, b, t⟩] w (LineR ([111, 117, 116, 32] ++ writL t.data.toList) w) := by
  refine Hs.enter Tryz.func24 [] [] [] [.g [.v (.int .i64 2), .v (.int .i64 a), .v (.int .i64 b), .v (.string t)]] (Mem.start0 w) (by kernel_rfl) (by kernel_rfl) ?_
  refine Hs.run1 300 (fun _ => by kernel_rfl) fun b0 => ?_
  refine Hs.any [0] (by kernel_rfl) ?_
  refine Hs.run0 300 (fun _ => by kernel_rfl) ?_
  apply Hs.share1 (β' := [] ++ [b0])
  · intro K
    refine Hs.branch2 0 4 (by kernel_rfl) ?_ ?_
    · refine Hs.callV (v := .agg sortC.toArray) (fun w' H => sorts_any w') (by kernel_rfl) ?_
      refine Hs.run1 300 (fun _ => by kernel_rfl) fun b1 => ?_
      exact K b1
    · refine Hs.run1 300 (fun _ => by kernel_rfl) fun b1 => ?_
      refine Hs.callV (v := .agg sortC.toArray) (fun w' H => sorts_any w') (by kernel_rfl) ?_
      refine Hs.run0 300 (fun _ => by kernel_rfl) ?_
      exact Hs.eqM (K b1) (by kernel_rfl) (by kernel_rfl)
  intro b1
  refine Hs.run0 300 (fun _ => by kernel_rfl) ?_
  refine Hs.condF (by kernel_rfl) ?_
  refine Hs.run0 300 (fun _ => by kernel_rfl) ?_
  refine Hs.condF (by kernel_rfl) ?_
  refine Hs.run0 300 (fun _ => by kernel_rfl) ?_
  refine Hs.condT (by kernel_rfl) ?_
  refine Hs.run0 300 (fun _ => by kernel_rfl) ?_
  refine Hs.any [0, 1] (by kernel_rfl) ?_
  refine Hs.run0 300 (fun _ => by kernel_rfl) ?_
  refine Hs.callV (v := .string (strL (writL t.data.toList))) (fun w' H => (strL_of t) ▸ written_any t.data.toList (by show t.size ≤ _; omega) w') (by kernel_rfl) ?_
  have l1 := writL_len t.data.toList
  have l2 : t.data.toList.length = t.size := rfl
  refine Hs.takeCat (T := 9) (rd := [0, 1]) 6 [111, 117, 116, 32] (writL t.data.toList) (by simp; omega) (by kernel_rfl) ?_
  refine Hs.run0 300 (fun _ => by kernel_rfl) ?_
  exact Hs.ret (v := .string (strL ([111, 117, 116, 32] ++ writL t.data.toList))) Tryz.func24 (by kernel_rfl) fun w' H => ⟨rfl, H.only⟩
set_option maxHeartbeats 4000000 in
theorem line_3 (a b : Int) (t : ByteArray) (w : World) (ht : t.size ≤ 1024) : Calls Tryz.prog 24 #[opA ⟨3, a, b, t⟩] w (LineR ([101, 114, 114, 32] ++ writL t.data.toList) w) := by
  refine Hs.enter Tryz.func24 [] [] [] [.g [.v (.int .i64 3), .v (.int .i64 a), .v (.int .i64 b), .v (.string t)]] (Mem.start0 w) (by kernel_rfl) (by kernel_rfl) ?_
  refine Hs.run1 300 (fun _ => by kernel_rfl) fun b0 => ?_
  refine Hs.any [0] (by kernel_rfl) ?_
  refine Hs.run0 300 (fun _ => by kernel_rfl) ?_
  apply Hs.share1 (β' := [] ++ [b0])
  · intro K
    refine Hs.branch2 0 4 (by kernel_rfl) ?_ ?_
    · refine Hs.callV (v := .agg sortC.toArray) (fun w' H => sorts_any w') (by kernel_rfl) ?_
      refine Hs.run1 300 (fun _ => by kernel_rfl) fun b1 => ?_
      exact K b1
    · refine Hs.run1 300 (fun _ => by kernel_rfl) fun b1 => ?_
      refine Hs.callV (v := .agg sortC.toArray) (fun w' H => sorts_any w') (by kernel_rfl) ?_
      refine Hs.run0 300 (fun _ => by kernel_rfl) ?_
      exact Hs.eqM (K b1) (by kernel_rfl) (by kernel_rfl)
  intro b1
  refine Hs.run0 300 (fun _ => by kernel_rfl) ?_
  refine Hs.condF (by kernel_rfl) ?_
  refine Hs.run0 300 (fun _ => by kernel_rfl) ?_
  refine Hs.condF (by kernel_rfl) ?_
  refine Hs.run0 300 (fun _ => by kernel_rfl) ?_
  refine Hs.condT (by kernel_rfl) ?_
  refine Hs.run0 300 (fun _ => by kernel_rfl) ?_
  refine Hs.any [0, 1] (by kernel_rfl) ?_
  refine Hs.run0 300 (fun _ => by kernel_rfl) ?_
  refine Hs.callV (v := .string (strL (writL t.data.toList))) (fun w' H => (strL_of t) ▸ written_any t.data.toList (by show t.size ≤ _; omega) w') (by kernel_rfl) ?_
  have l1 := writL_len t.data.toList
  have l2 : t.data.toList.length = t.size := rfl
  refine Hs.takeCat (T := 9) (rd := [0, 1]) 6 [101, 114, 114, 32] (writL t.data.toList) (by simp; omega) (by kernel_rfl) ?_
  refine Hs.run0 300 (fun _ => by kernel_rfl) ?_
  exact Hs.ret (v := .string (strL ([101, 114, 114, 32] ++ writL t.data.toList))) Tryz.func24 (by kernel_rfl) fun w' H => ⟨rfl, H.only⟩
set_option maxHeartbeats 4000000 in
theorem line_4 (a b : Int) (t : ByteArray) (w : World) (hS : SLib w) (h0 : -9223372036854775808 ≤ a) (h1 : a ≤ 9223372036854775807) : Calls Tryz.prog 24 #[opA ⟨4, a, b, t⟩] w (LineR ([105, 110, 32] ++ Lib.itoa a) w) := by
  refine Hs.enter Tryz.func24 [] [] [] [.g [.v (.int .i64 4), .v (.int .i64 a), .v (.int .i64 b), .v (.string t)]] (Mem.start0 w) (by kernel_rfl) (by kernel_rfl) ?_
  refine Hs.run1 300 (fun _ => by kernel_rfl) fun b0 => ?_
  refine Hs.any [0] (by kernel_rfl) ?_
  refine Hs.run0 300 (fun _ => by kernel_rfl) ?_
  apply Hs.share1 (β' := [] ++ [b0])
  · intro K
    refine Hs.branch2 0 4 (by kernel_rfl) ?_ ?_
    · refine Hs.callV (v := .agg sortC.toArray) (fun w' H => sorts_any w') (by kernel_rfl) ?_
      refine Hs.run1 300 (fun _ => by kernel_rfl) fun b1 => ?_
      exact K b1
    · refine Hs.run1 300 (fun _ => by kernel_rfl) fun b1 => ?_
      refine Hs.callV (v := .agg sortC.toArray) (fun w' H => sorts_any w') (by kernel_rfl) ?_
      refine Hs.run0 300 (fun _ => by kernel_rfl) ?_
      exact Hs.eqM (K b1) (by kernel_rfl) (by kernel_rfl)
  intro b1
  refine Hs.run0 300 (fun _ => by kernel_rfl) ?_
  refine Hs.condT (by kernel_rfl) ?_
  refine Hs.run0 300 (fun _ => by kernel_rfl) ?_
  refine Hs.any [0, 1] (by kernel_rfl) ?_
  refine Hs.run0 300 (fun _ => by kernel_rfl) ?_
  refine Hs.callV (v := .string (strL (Lib.itoa a))) (fun w' H => itoa_any a h0 h1 w' (hS.only H.only)) (by kernel_rfl) ?_
  refine Hs.takeCat (T := 9) (rd := [0, 1]) 6 [105, 110, 32] (Lib.itoa a) (by have := itoa_len h0 h1; simp; omega) (by kernel_rfl) ?_
  refine Hs.run0 300 (fun _ => by kernel_rfl) ?_
  exact Hs.ret (v := .string (strL ([105, 110, 32] ++ Lib.itoa a))) Tryz.func24 (by kernel_rfl) fun w' H => ⟨rfl, H.only⟩
set_option maxHeartbeats 4000000 in
theorem line_5 (a b : Int) (t : ByteArray) (w : World) (hS : SLib w) (h0 : -9223372036854775808 ≤ a) (h1 : a ≤ 9223372036854775807) : Calls Tryz.prog 24 #[opA ⟨5, a, b, t⟩] w (LineR ([102, 111, 114, 107, 32] ++ Lib.itoa a) w) := by
  refine Hs.enter Tryz.func24 [] [] [] [.g [.v (.int .i64 5), .v (.int .i64 a), .v (.int .i64 b), .v (.string t)]] (Mem.start0 w) (by kernel_rfl) (by kernel_rfl) ?_
  refine Hs.run1 300 (fun _ => by kernel_rfl) fun b0 => ?_
  refine Hs.any [0] (by kernel_rfl) ?_
  refine Hs.run0 300 (fun _ => by kernel_rfl) ?_
  apply Hs.share1 (β' := [] ++ [b0])
  · intro K
    refine Hs.branch2 0 4 (by kernel_rfl) ?_ ?_
    · refine Hs.callV (v := .agg sortC.toArray) (fun w' H => sorts_any w') (by kernel_rfl) ?_
      refine Hs.run1 300 (fun _ => by kernel_rfl) fun b1 => ?_
      exact K b1
    · refine Hs.run1 300 (fun _ => by kernel_rfl) fun b1 => ?_
      refine Hs.callV (v := .agg sortC.toArray) (fun w' H => sorts_any w') (by kernel_rfl) ?_
      refine Hs.run0 300 (fun _ => by kernel_rfl) ?_
      exact Hs.eqM (K b1) (by kernel_rfl) (by kernel_rfl)
  intro b1
  refine Hs.run0 300 (fun _ => by kernel_rfl) ?_
  refine Hs.condT (by kernel_rfl) ?_
  refine Hs.run0 300 (fun _ => by kernel_rfl) ?_
  refine Hs.any [0, 1] (by kernel_rfl) ?_
  refine Hs.run0 300 (fun _ => by kernel_rfl) ?_
  refine Hs.callV (v := .string (strL (Lib.itoa a))) (fun w' H => itoa_any a h0 h1 w' (hS.only H.only)) (by kernel_rfl) ?_
  refine Hs.takeCat (T := 9) (rd := [0, 1]) 6 [102, 111, 114, 107, 32] (Lib.itoa a) (by have := itoa_len h0 h1; simp; omega) (by kernel_rfl) ?_
  refine Hs.run0 300 (fun _ => by kernel_rfl) ?_
  exact Hs.ret (v := .string (strL ([102, 111, 114, 107, 32] ++ Lib.itoa a))) Tryz.func24 (by kernel_rfl) fun w' H => ⟨rfl, H.only⟩
set_option maxHeartbeats 4000000 in
theorem line_6 (a b : Int) (t : ByteArray) (w : World) (hS : SLib w) (h0 : -9223372036854775808 ≤ a) (h1 : a ≤ 9223372036854775807) : Calls Tryz.prog 24 #[opA ⟨6, a, b, t⟩] w (LineR ([101, 120, 101, 99, 32] ++ Lib.itoa a) w) := by
  refine Hs.enter Tryz.func24 [] [] [] [.g [.v (.int .i64 6), .v (.int .i64 a), .v (.int .i64 b), .v (.string t)]] (Mem.start0 w) (by kernel_rfl) (by kernel_rfl) ?_
  refine Hs.run1 300 (fun _ => by kernel_rfl) fun b0 => ?_
  refine Hs.any [0] (by kernel_rfl) ?_
  refine Hs.run0 300 (fun _ => by kernel_rfl) ?_
  apply Hs.share1 (β' := [] ++ [b0])
  · intro K
    refine Hs.branch2 0 4 (by kernel_rfl) ?_ ?_
    · refine Hs.callV (v := .agg sortC.toArray) (fun w' H => sorts_any w') (by kernel_rfl) ?_
      refine Hs.run1 300 (fun _ => by kernel_rfl) fun b1 => ?_
      exact K b1
    · refine Hs.run1 300 (fun _ => by kernel_rfl) fun b1 => ?_
      refine Hs.callV (v := .agg sortC.toArray) (fun w' H => sorts_any w') (by kernel_rfl) ?_
      refine Hs.run0 300 (fun _ => by kernel_rfl) ?_
      exact Hs.eqM (K b1) (by kernel_rfl) (by kernel_rfl)
  intro b1
  refine Hs.run0 300 (fun _ => by kernel_rfl) ?_
  refine Hs.condT (by kernel_rfl) ?_
  refine Hs.run0 300 (fun _ => by kernel_rfl) ?_
  refine Hs.any [0, 1] (by kernel_rfl) ?_
  refine Hs.run0 300 (fun _ => by kernel_rfl) ?_
  refine Hs.callV (v := .string (strL (Lib.itoa a))) (fun w' H => itoa_any a h0 h1 w' (hS.only H.only)) (by kernel_rfl) ?_
  refine Hs.takeCat (T := 9) (rd := [0, 1]) 6 [101, 120, 101, 99, 32] (Lib.itoa a) (by have := itoa_len h0 h1; simp; omega) (by kernel_rfl) ?_
  refine Hs.run0 300 (fun _ => by kernel_rfl) ?_
  exact Hs.ret (v := .string (strL ([101, 120, 101, 99, 32] ++ Lib.itoa a))) Tryz.func24 (by kernel_rfl) fun w' H => ⟨rfl, H.only⟩
set_option maxHeartbeats 4000000 in
theorem line_7 (a b : Int) (t : ByteArray) (w : World) (hS : SLib w) (h0 : -9223372036854775808 ≤ a) (h1 : a ≤ 9223372036854775807) : Calls Tryz.prog 24 #[opA ⟨7, a, b, t⟩] w (LineR ([119, 97, 105, 116, 32] ++ Lib.itoa a) w) := by
  refine Hs.enter Tryz.func24 [] [] [] [.g [.v (.int .i64 7), .v (.int .i64 a), .v (.int .i64 b), .v (.string t)]] (Mem.start0 w) (by kernel_rfl) (by kernel_rfl) ?_
  refine Hs.run1 300 (fun _ => by kernel_rfl) fun b0 => ?_
  refine Hs.any [0] (by kernel_rfl) ?_
  refine Hs.run0 300 (fun _ => by kernel_rfl) ?_
  apply Hs.share1 (β' := [] ++ [b0])
  · intro K
    refine Hs.branch2 0 4 (by kernel_rfl) ?_ ?_
    · refine Hs.callV (v := .agg sortC.toArray) (fun w' H => sorts_any w') (by kernel_rfl) ?_
      refine Hs.run1 300 (fun _ => by kernel_rfl) fun b1 => ?_
      exact K b1
    · refine Hs.run1 300 (fun _ => by kernel_rfl) fun b1 => ?_
      refine Hs.callV (v := .agg sortC.toArray) (fun w' H => sorts_any w') (by kernel_rfl) ?_
      refine Hs.run0 300 (fun _ => by kernel_rfl) ?_
      exact Hs.eqM (K b1) (by kernel_rfl) (by kernel_rfl)
  intro b1
  refine Hs.run0 300 (fun _ => by kernel_rfl) ?_
  refine Hs.condT (by kernel_rfl) ?_
  refine Hs.run0 300 (fun _ => by kernel_rfl) ?_
  refine Hs.any [0, 1] (by kernel_rfl) ?_
  refine Hs.run0 300 (fun _ => by kernel_rfl) ?_
  refine Hs.callV (v := .string (strL (Lib.itoa a))) (fun w' H => itoa_any a h0 h1 w' (hS.only H.only)) (by kernel_rfl) ?_
  refine Hs.takeCat (T := 9) (rd := [0, 1]) 6 [119, 97, 105, 116, 32] (Lib.itoa a) (by have := itoa_len h0 h1; simp; omega) (by kernel_rfl) ?_
  refine Hs.run0 300 (fun _ => by kernel_rfl) ?_
  exact Hs.ret (v := .string (strL ([119, 97, 105, 116, 32] ++ Lib.itoa a))) Tryz.func24 (by kernel_rfl) fun w' H => ⟨rfl, H.only⟩
set_option maxHeartbeats 4000000 in
theorem line_8 (a b : Int) (t : ByteArray) (w : World) (hS : SLib w) (h0 : -9223372036854775808 ≤ a) (h1 : a ≤ 9223372036854775807) (h2 : -9223372036854775808 ≤ b) (h3 : b ≤ 9223372036854775807) : Calls Tryz.prog 24 #[opA ⟨8, a, b, t⟩] w (LineR (([107, 105, 108, 108, 32] ++ Lib.itoa a) ++ [32] ++ Lib.itoa b) w) := by
  refine Hs.enter Tryz.func24 [] [] [] [.g [.v (.int .i64 8), .v (.int .i64 a), .v (.int .i64 b), .v (.string t)]] (Mem.start0 w) (by kernel_rfl) (by kernel_rfl) ?_
  refine Hs.run1 300 (fun _ => by kernel_rfl) fun b0 => ?_
  refine Hs.any [0] (by kernel_rfl) ?_
  refine Hs.run0 300 (fun _ => by kernel_rfl) ?_
  apply Hs.share1 (β' := [] ++ [b0])
  · intro K
    refine Hs.branch2 0 4 (by kernel_rfl) ?_ ?_
    · refine Hs.callV (v := .agg sortC.toArray) (fun w' H => sorts_any w') (by kernel_rfl) ?_
      refine Hs.run1 300 (fun _ => by kernel_rfl) fun b1 => ?_
      exact K b1
    · refine Hs.run1 300 (fun _ => by kernel_rfl) fun b1 => ?_
      refine Hs.callV (v := .agg sortC.toArray) (fun w' H => sorts_any w') (by kernel_rfl) ?_
      refine Hs.run0 300 (fun _ => by kernel_rfl) ?_
      exact Hs.eqM (K b1) (by kernel_rfl) (by kernel_rfl)
  intro b1
  refine Hs.run0 300 (fun _ => by kernel_rfl) ?_
  refine Hs.condF (by kernel_rfl) ?_
  refine Hs.run0 300 (fun _ => by kernel_rfl) ?_
  refine Hs.condT (by kernel_rfl) ?_
  refine Hs.run0 300 (fun _ => by kernel_rfl) ?_
  refine Hs.any [0, 1] (by kernel_rfl) ?_
  refine Hs.run0 300 (fun _ => by kernel_rfl) ?_
  refine Hs.callV (v := .string (strL (Lib.itoa a))) (fun w' H => itoa_any a h0 h1 w' (hS.only H.only)) (by kernel_rfl) ?_
  have l1 := itoa_len h0 h1
  have l2 := itoa_len h2 h3
  refine Hs.takeCat (T := 9) (rd := [0, 1]) 6 [107, 105, 108, 108, 32] (Lib.itoa a) (by simp; omega) (by kernel_rfl) ?_
  refine Hs.takeCat (T := 9) (rd := [0, 1]) 7 ([107, 105, 108, 108, 32] ++ Lib.itoa a) [32] (by simp; omega) (by kernel_rfl) ?_
  refine Hs.run0 300 (fun _ => by kernel_rfl) ?_
  refine Hs.callV (v := .string (strL (Lib.itoa b))) (fun w' H => itoa_any b h2 h3 w' (hS.only H.only)) (by kernel_rfl) ?_
  refine Hs.takeCat (T := 9) (rd := [0, 1]) 11 ([107, 105, 108, 108, 32] ++ Lib.itoa a ++ [32]) (Lib.itoa b) (by simp; omega) (by kernel_rfl) ?_
  refine Hs.run0 300 (fun _ => by kernel_rfl) ?_
  exact Hs.ret (v := .string (strL ([107, 105, 108, 108, 32] ++ Lib.itoa a ++ [32] ++ Lib.itoa b))) Tryz.func24 (by kernel_rfl) fun w' H => ⟨rfl, H.only⟩
set_option maxHeartbeats 4000000 in
theorem line_9 (a b : Int) (t : ByteArray) (w : World) (hS : SLib w) (h0 : -9223372036854775808 ≤ a) (h1 : a ≤ 9223372036854775807) : Calls Tryz.prog 24 #[opA ⟨9, a, b, t⟩] w (LineR ([103, 114, 111, 117, 112, 32] ++ Lib.itoa a) w) := by
  refine Hs.enter Tryz.func24 [] [] [] [.g [.v (.int .i64 9), .v (.int .i64 a), .v (.int .i64 b), .v (.string t)]] (Mem.start0 w) (by kernel_rfl) (by kernel_rfl) ?_
  refine Hs.run1 300 (fun _ => by kernel_rfl) fun b0 => ?_
  refine Hs.any [0] (by kernel_rfl) ?_
  refine Hs.run0 300 (fun _ => by kernel_rfl) ?_
  apply Hs.share1 (β' := [] ++ [b0])
  · intro K
    refine Hs.branch2 0 4 (by kernel_rfl) ?_ ?_
    · refine Hs.callV (v := .agg sortC.toArray) (fun w' H => sorts_any w') (by kernel_rfl) ?_
      refine Hs.run1 300 (fun _ => by kernel_rfl) fun b1 => ?_
      exact K b1
    · refine Hs.run1 300 (fun _ => by kernel_rfl) fun b1 => ?_
      refine Hs.callV (v := .agg sortC.toArray) (fun w' H => sorts_any w') (by kernel_rfl) ?_
      refine Hs.run0 300 (fun _ => by kernel_rfl) ?_
      exact Hs.eqM (K b1) (by kernel_rfl) (by kernel_rfl)
  intro b1
  refine Hs.run0 300 (fun _ => by kernel_rfl) ?_
  refine Hs.condT (by kernel_rfl) ?_
  refine Hs.run0 300 (fun _ => by kernel_rfl) ?_
  refine Hs.any [0, 1] (by kernel_rfl) ?_
  refine Hs.run0 300 (fun _ => by kernel_rfl) ?_
  refine Hs.callV (v := .string (strL (Lib.itoa a))) (fun w' H => itoa_any a h0 h1 w' (hS.only H.only)) (by kernel_rfl) ?_
  refine Hs.takeCat (T := 9) (rd := [0, 1]) 6 [103, 114, 111, 117, 112, 32] (Lib.itoa a) (by have := itoa_len h0 h1; simp; omega) (by kernel_rfl) ?_
  refine Hs.run0 300 (fun _ => by kernel_rfl) ?_
  exact Hs.ret (v := .string (strL ([103, 114, 111, 117, 112, 32] ++ Lib.itoa a))) Tryz.func24 (by kernel_rfl) fun w' H => ⟨rfl, H.only⟩
set_option maxHeartbeats 4000000 in
theorem line_10 (a b : Int) (t : ByteArray) (w : World) : Calls Tryz.prog 24 #[opA ⟨10, a, b, t⟩] w (LineR ([115, 101, 115, 115, 105, 111, 110]) w) := by
  refine Hs.enter Tryz.func24 [] [] [] [.g [.v (.int .i64 10), .v (.int .i64 a), .v (.int .i64 b), .v (.string t)]] (Mem.start0 w) (by kernel_rfl) (by kernel_rfl) ?_
  refine Hs.run1 300 (fun _ => by kernel_rfl) fun b0 => ?_
  refine Hs.any [0] (by kernel_rfl) ?_
  refine Hs.run0 300 (fun _ => by kernel_rfl) ?_
  apply Hs.share1 (β' := [] ++ [b0])
  · intro K
    refine Hs.branch2 0 4 (by kernel_rfl) ?_ ?_
    · refine Hs.callV (v := .agg sortC.toArray) (fun w' H => sorts_any w') (by kernel_rfl) ?_
      refine Hs.run1 300 (fun _ => by kernel_rfl) fun b1 => ?_
      exact K b1
    · refine Hs.run1 300 (fun _ => by kernel_rfl) fun b1 => ?_
      refine Hs.callV (v := .agg sortC.toArray) (fun w' H => sorts_any w') (by kernel_rfl) ?_
      refine Hs.run0 300 (fun _ => by kernel_rfl) ?_
      exact Hs.eqM (K b1) (by kernel_rfl) (by kernel_rfl)
  intro b1
  refine Hs.run0 300 (fun _ => by kernel_rfl) ?_
  refine Hs.condF (by kernel_rfl) ?_
  refine Hs.run0 300 (fun _ => by kernel_rfl) ?_
  refine Hs.condF (by kernel_rfl) ?_
  refine Hs.run0 300 (fun _ => by kernel_rfl) ?_
  refine Hs.condF (by kernel_rfl) ?_
  refine Hs.run0 300 (fun _ => by kernel_rfl) ?_
  exact Hs.ret (v := .string (strL [115, 101, 115, 115, 105, 111, 110])) Tryz.func24 (by kernel_rfl) fun w' H => ⟨rfl, H.only⟩
set_option maxHeartbeats 4000000 in
theorem line_11 (a b : Int) (t : ByteArray) (w : World) (hS : SLib w) (h0 : -9223372036854775808 ≤ a) (h1 : a ≤ 9223372036854775807) : Calls Tryz.prog 24 #[opA ⟨11, a, b, t⟩] w (LineR ([102, 114, 111, 110, 116, 32] ++ Lib.itoa a) w) := by
  refine Hs.enter Tryz.func24 [] [] [] [.g [.v (.int .i64 11), .v (.int .i64 a), .v (.int .i64 b), .v (.string t)]] (Mem.start0 w) (by kernel_rfl) (by kernel_rfl) ?_
  refine Hs.run1 300 (fun _ => by kernel_rfl) fun b0 => ?_
  refine Hs.any [0] (by kernel_rfl) ?_
  refine Hs.run0 300 (fun _ => by kernel_rfl) ?_
  apply Hs.share1 (β' := [] ++ [b0])
  · intro K
    refine Hs.branch2 0 4 (by kernel_rfl) ?_ ?_
    · refine Hs.callV (v := .agg sortC.toArray) (fun w' H => sorts_any w') (by kernel_rfl) ?_
      refine Hs.run1 300 (fun _ => by kernel_rfl) fun b1 => ?_
      exact K b1
    · refine Hs.run1 300 (fun _ => by kernel_rfl) fun b1 => ?_
      refine Hs.callV (v := .agg sortC.toArray) (fun w' H => sorts_any w') (by kernel_rfl) ?_
      refine Hs.run0 300 (fun _ => by kernel_rfl) ?_
      exact Hs.eqM (K b1) (by kernel_rfl) (by kernel_rfl)
  intro b1
  refine Hs.run0 300 (fun _ => by kernel_rfl) ?_
  refine Hs.condT (by kernel_rfl) ?_
  refine Hs.run0 300 (fun _ => by kernel_rfl) ?_
  refine Hs.any [0, 1] (by kernel_rfl) ?_
  refine Hs.run0 300 (fun _ => by kernel_rfl) ?_
  refine Hs.callV (v := .string (strL (Lib.itoa a))) (fun w' H => itoa_any a h0 h1 w' (hS.only H.only)) (by kernel_rfl) ?_
  refine Hs.takeCat (T := 9) (rd := [0, 1]) 6 [102, 114, 111, 110, 116, 32] (Lib.itoa a) (by have := itoa_len h0 h1; simp; omega) (by kernel_rfl) ?_
  refine Hs.run0 300 (fun _ => by kernel_rfl) ?_
  exact Hs.ret (v := .string (strL ([102, 114, 111, 110, 116, 32] ++ Lib.itoa a))) Tryz.func24 (by kernel_rfl) fun w' H => ⟨rfl, H.only⟩
set_option maxHeartbeats 4000000 in
theorem line_12 (a b : Int) (t : ByteArray) (w : World) (hS : SLib w) (h0 : -9223372036854775808 ≤ a) (h1 : a ≤ 9223372036854775807) (h2 : -9223372036854775808 ≤ b) (h3 : b ≤ 9223372036854775807) : Calls Tryz.prog 24 #[opA ⟨12, a, b, t⟩] w (LineR (([97, 99, 116, 32] ++ Lib.itoa a) ++ [32] ++ Lib.itoa b) w) := by
  refine Hs.enter Tryz.func24 [] [] [] [.g [.v (.int .i64 12), .v (.int .i64 a), .v (.int .i64 b), .v (.string t)]] (Mem.start0 w) (by kernel_rfl) (by kernel_rfl) ?_
  refine Hs.run1 300 (fun _ => by kernel_rfl) fun b0 => ?_
  refine Hs.any [0] (by kernel_rfl) ?_
  refine Hs.run0 300 (fun _ => by kernel_rfl) ?_
  apply Hs.share1 (β' := [] ++ [b0])
  · intro K
    refine Hs.branch2 0 4 (by kernel_rfl) ?_ ?_
    · refine Hs.callV (v := .agg sortC.toArray) (fun w' H => sorts_any w') (by kernel_rfl) ?_
      refine Hs.run1 300 (fun _ => by kernel_rfl) fun b1 => ?_
      exact K b1
    · refine Hs.run1 300 (fun _ => by kernel_rfl) fun b1 => ?_
      refine Hs.callV (v := .agg sortC.toArray) (fun w' H => sorts_any w') (by kernel_rfl) ?_
      refine Hs.run0 300 (fun _ => by kernel_rfl) ?_
      exact Hs.eqM (K b1) (by kernel_rfl) (by kernel_rfl)
  intro b1
  refine Hs.run0 300 (fun _ => by kernel_rfl) ?_
  refine Hs.condF (by kernel_rfl) ?_
  refine Hs.run0 300 (fun _ => by kernel_rfl) ?_
  refine Hs.condT (by kernel_rfl) ?_
  refine Hs.run0 300 (fun _ => by kernel_rfl) ?_
  refine Hs.any [0, 1] (by kernel_rfl) ?_
  refine Hs.run0 300 (fun _ => by kernel_rfl) ?_
  refine Hs.callV (v := .string (strL (Lib.itoa a))) (fun w' H => itoa_any a h0 h1 w' (hS.only H.only)) (by kernel_rfl) ?_
  have l1 := itoa_len h0 h1
  have l2 := itoa_len h2 h3
  refine Hs.takeCat (T := 9) (rd := [0, 1]) 6 [97, 99, 116, 32] (Lib.itoa a) (by simp; omega) (by kernel_rfl) ?_
  refine Hs.takeCat (T := 9) (rd := [0, 1]) 7 ([97, 99, 116, 32] ++ Lib.itoa a) [32] (by simp; omega) (by kernel_rfl) ?_
  refine Hs.run0 300 (fun _ => by kernel_rfl) ?_
  refine Hs.callV (v := .string (strL (Lib.itoa b))) (fun w' H => itoa_any b h2 h3 w' (hS.only H.only)) (by kernel_rfl) ?_
  refine Hs.takeCat (T := 9) (rd := [0, 1]) 11 ([97, 99, 116, 32] ++ Lib.itoa a ++ [32]) (Lib.itoa b) (by simp; omega) (by kernel_rfl) ?_
  refine Hs.run0 300 (fun _ => by kernel_rfl) ?_
  exact Hs.ret (v := .string (strL ([97, 99, 116, 32] ++ Lib.itoa a ++ [32] ++ Lib.itoa b))) Tryz.func24 (by kernel_rfl) fun w' H => ⟨rfl, H.only⟩
set_option maxHeartbeats 4000000 in
theorem line_13 (a b : Int) (t : ByteArray) (w : World) (hS : SLib w) (h0 : -9223372036854775808 ≤ a) (h1 : a ≤ 9223372036854775807) (h2 : -9223372036854775808 ≤ b) (h3 : b ≤ 9223372036854775807) : Calls Tryz.prog 24 #[opA ⟨13, a, b, t⟩] w (LineR (([109, 97, 115, 107, 32] ++ Lib.itoa a) ++ [32] ++ Lib.itoa b) w) := by
  refine Hs.enter Tryz.func24 [] [] [] [.g [.v (.int .i64 13), .v (.int .i64 a), .v (.int .i64 b), .v (.string t)]] (Mem.start0 w) (by kernel_rfl) (by kernel_rfl) ?_
  refine Hs.run1 300 (fun _ => by kernel_rfl) fun b0 => ?_
  refine Hs.any [0] (by kernel_rfl) ?_
  refine Hs.run0 300 (fun _ => by kernel_rfl) ?_
  apply Hs.share1 (β' := [] ++ [b0])
  · intro K
    refine Hs.branch2 0 4 (by kernel_rfl) ?_ ?_
    · refine Hs.callV (v := .agg sortC.toArray) (fun w' H => sorts_any w') (by kernel_rfl) ?_
      refine Hs.run1 300 (fun _ => by kernel_rfl) fun b1 => ?_
      exact K b1
    · refine Hs.run1 300 (fun _ => by kernel_rfl) fun b1 => ?_
      refine Hs.callV (v := .agg sortC.toArray) (fun w' H => sorts_any w') (by kernel_rfl) ?_
      refine Hs.run0 300 (fun _ => by kernel_rfl) ?_
      exact Hs.eqM (K b1) (by kernel_rfl) (by kernel_rfl)
  intro b1
  refine Hs.run0 300 (fun _ => by kernel_rfl) ?_
  refine Hs.condF (by kernel_rfl) ?_
  refine Hs.run0 300 (fun _ => by kernel_rfl) ?_
  refine Hs.condT (by kernel_rfl) ?_
  refine Hs.run0 300 (fun _ => by kernel_rfl) ?_
  refine Hs.any [0, 1] (by kernel_rfl) ?_
  refine Hs.run0 300 (fun _ => by kernel_rfl) ?_
  refine Hs.callV (v := .string (strL (Lib.itoa a))) (fun w' H => itoa_any a h0 h1 w' (hS.only H.only)) (by kernel_rfl) ?_
  have l1 := itoa_len h0 h1
  have l2 := itoa_len h2 h3
  refine Hs.takeCat (T := 9) (rd := [0, 1]) 6 [109, 97, 115, 107, 32] (Lib.itoa a) (by simp; omega) (by kernel_rfl) ?_
  refine Hs.takeCat (T := 9) (rd := [0, 1]) 7 ([109, 97, 115, 107, 32] ++ Lib.itoa a) [32] (by simp; omega) (by kernel_rfl) ?_
  refine Hs.run0 300 (fun _ => by kernel_rfl) ?_
  refine Hs.callV (v := .string (strL (Lib.itoa b))) (fun w' H => itoa_any b h2 h3 w' (hS.only H.only)) (by kernel_rfl) ?_
  refine Hs.takeCat (T := 9) (rd := [0, 1]) 11 ([109, 97, 115, 107, 32] ++ Lib.itoa a ++ [32]) (Lib.itoa b) (by simp; omega) (by kernel_rfl) ?_
  refine Hs.run0 300 (fun _ => by kernel_rfl) ?_
  exact Hs.ret (v := .string (strL ([109, 97, 115, 107, 32] ++ Lib.itoa a ++ [32] ++ Lib.itoa b))) Tryz.func24 (by kernel_rfl) fun w' H => ⟨rfl, H.only⟩
set_option maxHeartbeats 4000000 in
theorem line_14 (a b : Int) (t : ByteArray) (w : World) (hS : SLib w) (h0 : -9223372036854775808 ≤ a) (h1 : a ≤ 9223372036854775807) : Calls Tryz.prog 24 #[opA ⟨14, a, b, t⟩] w (LineR ([115, 108, 101, 101, 112, 32] ++ Lib.itoa a) w) := by
  refine Hs.enter Tryz.func24 [] [] [] [.g [.v (.int .i64 14), .v (.int .i64 a), .v (.int .i64 b), .v (.string t)]] (Mem.start0 w) (by kernel_rfl) (by kernel_rfl) ?_
  refine Hs.run1 300 (fun _ => by kernel_rfl) fun b0 => ?_
  refine Hs.any [0] (by kernel_rfl) ?_
  refine Hs.run0 300 (fun _ => by kernel_rfl) ?_
  apply Hs.share1 (β' := [] ++ [b0])
  · intro K
    refine Hs.branch2 0 4 (by kernel_rfl) ?_ ?_
    · refine Hs.callV (v := .agg sortC.toArray) (fun w' H => sorts_any w') (by kernel_rfl) ?_
      refine Hs.run1 300 (fun _ => by kernel_rfl) fun b1 => ?_
      exact K b1
    · refine Hs.run1 300 (fun _ => by kernel_rfl) fun b1 => ?_
      refine Hs.callV (v := .agg sortC.toArray) (fun w' H => sorts_any w') (by kernel_rfl) ?_
      refine Hs.run0 300 (fun _ => by kernel_rfl) ?_
      exact Hs.eqM (K b1) (by kernel_rfl) (by kernel_rfl)
  intro b1
  refine Hs.run0 300 (fun _ => by kernel_rfl) ?_
  refine Hs.condT (by kernel_rfl) ?_
  refine Hs.run0 300 (fun _ => by kernel_rfl) ?_
  refine Hs.any [0, 1] (by kernel_rfl) ?_
  refine Hs.run0 300 (fun _ => by kernel_rfl) ?_
  refine Hs.callV (v := .string (strL (Lib.itoa a))) (fun w' H => itoa_any a h0 h1 w' (hS.only H.only)) (by kernel_rfl) ?_
  refine Hs.takeCat (T := 9) (rd := [0, 1]) 6 [115, 108, 101, 101, 112, 32] (Lib.itoa a) (by have := itoa_len h0 h1; simp; omega) (by kernel_rfl) ?_
  refine Hs.run0 300 (fun _ => by kernel_rfl) ?_
  exact Hs.ret (v := .string (strL ([115, 108, 101, 101, 112, 32] ++ Lib.itoa a))) Tryz.func24 (by kernel_rfl) fun w' H => ⟨rfl, H.only⟩
set_option maxHeartbeats 4000000 in
theorem line_15 (a b : Int) (t : ByteArray) (w : World) (hS : SLib w) (h0 : -9223372036854775808 ≤ a) (h1 : a ≤ 9223372036854775807) (h2 : -9223372036854775808 ≤ b) (h3 : b ≤ 9223372036854775807) : Calls Tryz.prog 24 #[opA ⟨15, a, b, t⟩] w (LineR (([109, 111, 100, 101, 32] ++ Lib.itoa a) ++ [32] ++ Lib.itoa b) w) := by
  refine Hs.enter Tryz.func24 [] [] [] [.g [.v (.int .i64 15), .v (.int .i64 a), .v (.int .i64 b), .v (.string t)]] (Mem.start0 w) (by kernel_rfl) (by kernel_rfl) ?_
  refine Hs.run1 300 (fun _ => by kernel_rfl) fun b0 => ?_
  refine Hs.any [0] (by kernel_rfl) ?_
  refine Hs.run0 300 (fun _ => by kernel_rfl) ?_
  apply Hs.share1 (β' := [] ++ [b0])
  · intro K
    refine Hs.branch2 0 4 (by kernel_rfl) ?_ ?_
    · refine Hs.callV (v := .agg sortC.toArray) (fun w' H => sorts_any w') (by kernel_rfl) ?_
      refine Hs.run1 300 (fun _ => by kernel_rfl) fun b1 => ?_
      exact K b1
    · refine Hs.run1 300 (fun _ => by kernel_rfl) fun b1 => ?_
      refine Hs.callV (v := .agg sortC.toArray) (fun w' H => sorts_any w') (by kernel_rfl) ?_
      refine Hs.run0 300 (fun _ => by kernel_rfl) ?_
      exact Hs.eqM (K b1) (by kernel_rfl) (by kernel_rfl)
  intro b1
  refine Hs.run0 300 (fun _ => by kernel_rfl) ?_
  refine Hs.condF (by kernel_rfl) ?_
  refine Hs.run0 300 (fun _ => by kernel_rfl) ?_
  refine Hs.condT (by kernel_rfl) ?_
  refine Hs.run0 300 (fun _ => by kernel_rfl) ?_
  refine Hs.any [0, 1] (by kernel_rfl) ?_
  refine Hs.run0 300 (fun _ => by kernel_rfl) ?_
  refine Hs.callV (v := .string (strL (Lib.itoa a))) (fun w' H => itoa_any a h0 h1 w' (hS.only H.only)) (by kernel_rfl) ?_
  have l1 := itoa_len h0 h1
  have l2 := itoa_len h2 h3
  refine Hs.takeCat (T := 9) (rd := [0, 1]) 6 [109, 111, 100, 101, 32] (Lib.itoa a) (by simp; omega) (by kernel_rfl) ?_
  refine Hs.takeCat (T := 9) (rd := [0, 1]) 7 ([109, 111, 100, 101, 32] ++ Lib.itoa a) [32] (by simp; omega) (by kernel_rfl) ?_
  refine Hs.run0 300 (fun _ => by kernel_rfl) ?_
  refine Hs.callV (v := .string (strL (Lib.itoa b))) (fun w' H => itoa_any b h2 h3 w' (hS.only H.only)) (by kernel_rfl) ?_
  refine Hs.takeCat (T := 9) (rd := [0, 1]) 11 ([109, 111, 100, 101, 32] ++ Lib.itoa a ++ [32]) (Lib.itoa b) (by simp; omega) (by kernel_rfl) ?_
  refine Hs.run0 300 (fun _ => by kernel_rfl) ?_
  exact Hs.ret (v := .string (strL ([109, 111, 100, 101, 32] ++ Lib.itoa a ++ [32] ++ Lib.itoa b))) Tryz.func24 (by kernel_rfl) fun w' H => ⟨rfl, H.only⟩
set_option maxHeartbeats 4000000 in
theorem line_16 (a b : Int) (t : ByteArray) (w : World) : Calls Tryz.prog 24 #[opA ⟨16, a, b, t⟩] w (LineR ([99, 111, 112, 121]) w) := by
  refine Hs.enter Tryz.func24 [] [] [] [.g [.v (.int .i64 16), .v (.int .i64 a), .v (.int .i64 b), .v (.string t)]] (Mem.start0 w) (by kernel_rfl) (by kernel_rfl) ?_
  refine Hs.run1 300 (fun _ => by kernel_rfl) fun b0 => ?_
  refine Hs.any [0] (by kernel_rfl) ?_
  refine Hs.run0 300 (fun _ => by kernel_rfl) ?_
  apply Hs.share1 (β' := [] ++ [b0])
  · intro K
    refine Hs.branch2 0 4 (by kernel_rfl) ?_ ?_
    · refine Hs.callV (v := .agg sortC.toArray) (fun w' H => sorts_any w') (by kernel_rfl) ?_
      refine Hs.run1 300 (fun _ => by kernel_rfl) fun b1 => ?_
      exact K b1
    · refine Hs.run1 300 (fun _ => by kernel_rfl) fun b1 => ?_
      refine Hs.callV (v := .agg sortC.toArray) (fun w' H => sorts_any w') (by kernel_rfl) ?_
      refine Hs.run0 300 (fun _ => by kernel_rfl) ?_
      exact Hs.eqM (K b1) (by kernel_rfl) (by kernel_rfl)
  intro b1
  refine Hs.run0 300 (fun _ => by kernel_rfl) ?_
  refine Hs.condF (by kernel_rfl) ?_
  refine Hs.run0 300 (fun _ => by kernel_rfl) ?_
  refine Hs.condF (by kernel_rfl) ?_
  refine Hs.run0 300 (fun _ => by kernel_rfl) ?_
  refine Hs.condF (by kernel_rfl) ?_
  refine Hs.run0 300 (fun _ => by kernel_rfl) ?_
  exact Hs.ret (v := .string (strL [99, 111, 112, 121])) Tryz.func24 (by kernel_rfl) fun w' H => ⟨rfl, H.only⟩
theorem row_word {k : Nat} {r : SoR} (h : sortRows[k]? = some r) (o : OP9) (hk : o.k = k) : lineL o = r.1 ++ (if r.2.1 = 1 then 32 :: Lib.itoa o.a else if r.2.1 = 2 then 32 :: (Lib.itoa o.a ++ 32 :: Lib.itoa o.b) else if r.2.1 = 3 then 32 :: writL o.t.data.toList else []) :=
  lineL_row (by rw [hk, Int.toNat_natCast]; exact h)
/-- An operation that may be, as a line. -/
theorem line_any (o : OP9) (k : Nat) (r : SoR) (F : OpFit o k r) (h16 : k ≤ 16) (ht : o.t.size ≤ 1024) (w : World) (hS : SLib w) : Calls Tryz.prog 24 #[opA o] w (LineR (lineL o) w) := by
  have hl := row_word F.row o F.kk
  obtain ⟨kk, a, b, t⟩ := o
  have hk := F.kk
  have h1 := F.k1
  dsimp only at hk ht hl
  subst hk
  have h3 : k = 1 ∨ k = 2 ∨ k = 3 ∨ k = 4 ∨ k = 5 ∨ k = 6 ∨ k = 7 ∨ k = 8 ∨ k = 9 ∨ k = 10 ∨ k = 11 ∨ k = 12 ∨ k = 13 ∨ k = 14 ∨ k = 15 ∨ k = 16 := by omega
  have key : ∀ {x y : List UInt8}, Calls Tryz.prog 24 #[opA ⟨k, a, b, t⟩] w (LineR x w) → x = y → Calls Tryz.prog 24 #[opA ⟨k, a, b, t⟩] w (LineR y w) := fun h e => e ▸ h
  have hrow := F.row
  have fa := F.a
  have fb := F.b
  clear F
  rcases h3 with rfl | rfl | rfl | rfl | rfl | rfl | rfl | rfl | rfl | rfl | rfl | rfl | rfl | rfl | rfl | rfl
  all_goals
    injection hrow with hrow
    subst hrow
    rw [hl]
  · have fa : 0 ≤ a ∧ a ≤ 999999 := fa (.inl rfl); exact key (line_1 a b t w hS (by omega) (by omega)) (by simp)
  · exact key (line_2 a b t w ht) (by simp)
  · exact key (line_3 a b t w ht) (by simp)
  · have fa : 0 ≤ a ∧ a ≤ 999999 := fa (.inl rfl); exact key (line_4 a b t w hS (by omega) (by omega)) (by simp)
  · have fa : 0 ≤ a ∧ a ≤ 999999 := fa (.inl rfl); exact key (line_5 a b t w hS (by omega) (by omega)) (by simp)
  · have fa : 0 ≤ a ∧ a ≤ 999999 := fa (.inl rfl); exact key (line_6 a b t w hS (by omega) (by omega)) (by simp)
  · have fa : 0 ≤ a ∧ a ≤ 999999 := fa (.inl rfl); exact key (line_7 a b t w hS (by omega) (by omega)) (by simp)
  · have fa : 0 ≤ a ∧ a ≤ 999999 := fa (.inr rfl); have fb : 0 ≤ b ∧ b ≤ 999999 := fb rfl; exact key (line_8 a b t w hS (by omega) (by omega) (by omega) (by omega)) (by simp)
  · have fa : 0 ≤ a ∧ a ≤ 999999 := fa (.inl rfl); exact key (line_9 a b t w hS (by omega) (by omega)) (by simp)
  · exact key (line_10 a b t w) (by simp)
  · have fa : 0 ≤ a ∧ a ≤ 999999 := fa (.inl rfl); exact key (line_11 a b t w hS (by omega) (by omega)) (by simp)
  · have fa : 0 ≤ a ∧ a ≤ 999999 := fa (.inr rfl); have fb : 0 ≤ b ∧ b ≤ 999999 := fb rfl; exact key (line_12 a b t w hS (by omega) (by omega) (by omega) (by omega)) (by simp)
  · have fa : 0 ≤ a ∧ a ≤ 999999 := fa (.inr rfl); have fb : 0 ≤ b ∧ b ≤ 999999 := fb rfl; exact key (line_13 a b t w hS (by omega) (by omega) (by omega) (by omega)) (by simp)
  · have fa : 0 ≤ a ∧ a ≤ 999999 := fa (.inl rfl); exact key (line_14 a b t w hS (by omega) (by omega)) (by simp)
  · have fa : 0 ≤ a ∧ a ≤ 999999 := fa (.inr rfl); have fb : 0 ≤ b ∧ b ≤ 999999 := fb rfl; exact key (line_15 a b t w hS (by omega) (by omega) (by omega) (by omega)) (by simp)
  · exact key (line_16 a b t w) (by simp)
end Go.Proofs.YtmmcamkmglpgiaaGreatDoor

namespace Go.Proofs.YtmmcamkmglpgiaaGreatDoor
open Go.RowKit
set_option linter.all false
set_option maxRecDepth 100000
theorem put_any19 (g : Nat) (u : Bool) (A : Option Addr) (n cap : Nat) (out : List UInt8) (s : List UInt8) (w : World) (h : BuAt w g u A n cap (u8v out)) (hn : n + s.length + 1 ≤ 140737488355328) : Calls Tryz.prog 21 #[.string (strL s), .pointer (some ⟨g, 0, none⟩)] w (BuPost w g A n cap (u8v (out ++ (s ++ [10]))) (n + (s.length + 1)) (.tuple #[])) := by
  have hlen : out.length = n := by have := h.len; rwa [u8v_len] at this
  have hM := h.memV
  have e1 : u8v out ++ u8v s = u8v (out ++ s) := by simp [u8v]
  refine Hs.enter Tryz.func21 (g :: (Value.ownBlock (.slice A n cap)).toList) [g, 0] [.b true 65 [.v (bdV g u), .v (.slice A n cap)], .s A cap n 5 1 ((u8v out).flatMap cu8)] [.c (.v (.string (strL s))), .c (.p 0 0)] hM (by kernel_rfl) (by kernel_rfl) ?_
  refine Hs.run0 300 (fun _ => by kernel_rfl) ?_
  refine Hs.callBS 0 1 (T := 65) (cs0 := [.v (bdV g u), .v (.slice A n cap)]) (.tuple #[.int .i64 s.length, .nilIface]) (fun A' cap' => [.v (bdV g true), .v (.slice A' (n + s.length) cap')]) (u8v out) (u8v (out ++ s)) n (n + s.length) (by rw [u8v_len, hlen]) (by rw [u8v_len]; simp [hlen]) (by decide) (by kernel_rfl) (by kernel_rfl) (fun w' H hB hO hne => by
    have := ws_any g u A n cap (u8v out) s w' ⟨hB, hO, by rw [u8v_len, hlen], hne⟩ (by omega)
    rw [e1] at this
    exact this) (by kernel_rfl) (by kernel_rfl) (fun _ _ => (by kernel_rfl)) fun A1 c1 _ _ => ?_
  refine Hs.run0 300 (fun _ => by kernel_rfl) ?_
  refine Hs.callBS 0 1 (T := 65) (cs0 := [.v (bdV g true), .v (.slice A1 (n + s.length) c1)]) .nilIface (fun A' cap' => [.p 0 0, .v (.slice A' (n + (s.length + 1)) cap')]) (u8v (out ++ s)) (u8v (out ++ (s ++ [10]))) (n + s.length) (n + (s.length + 1)) (by rw [u8v_len]; simp [hlen]) (by rw [u8v_len]; simp [hlen]) (by decide) (by kernel_rfl) (by kernel_rfl) (fun w' H hB hO hne => by
    have := wb_any g true A1 (n + s.length) c1 (u8v (out ++ s)) 10 w' ⟨hB, hO, by rw [u8v_len]; simp [hlen], hne⟩ (by omega)
    rw [show (10 : Int) = ((10 : UInt8).toNat : Int) from rfl, ← u8v_snoc, List.append_assoc] at this
    exact this) (by kernel_rfl) (by kernel_rfl) (fun _ _ => (by kernel_rfl)) fun A2 c2 _ _ => ?_
  refine Hs.run0 300 (fun _ => by kernel_rfl) ?_
  exact Hs.ret (v := .tuple #[]) Tryz.func21 (by kernel_rfl) fun w' H => BuPost.of (A' := A2) (cap' := c2) H rfl (by kernel_rfl) (by kernel_rfl) (by rw [u8v_len]; simp [hlen])
theorem right_text {o : OP9} {p q : Int} (hp : 0 ≤ p) (hq : q ≤ 32) (h : rightB o p q = true) : o.t.size ≤ 1024 := by
  obtain ⟨k, r, F, h16⟩ := right_fit hp hq h
  by_cases h3 : r.2.1 = 3
  · obtain ⟨r2, hr, hs, -⟩ := sh_row k F.k1 h16
    obtain rfl : r2 = r := by have := F.row; rw [hr] at this; injection this
    have h1 := F.k1
    have hk : k = 1 ∨ k = 2 ∨ k = 3 ∨ k = 4 ∨ k = 5 ∨ k = 6 ∨ k = 7 ∨ k = 8 ∨ k = 9 ∨ k = 10 ∨ k = 11 ∨ k = 12 ∨ k = 13 ∨ k = 14 ∨ k = 15 ∨ k = 16 := by omega
    have hsh : shN k = 3 := by omega
    unfold rightB restB at h
    simp only [Bool.and_eq_true] at h
    have h2 := h.2.2.2.2
    rw [F.kk, Int.toNat_natCast] at h2
    rcases hk with rfl | rfl | rfl | rfl | rfl | rfl | rfl | rfl | rfl | rfl | rfl | rfl | rfl | rfl | rfl | rfl
    · exact absurd hsh (by decide)
    · have h4 : shortB o = true := h2
      unfold shortB at h4
      have := of_decide_eq_true h4
      omega
    · have h4 : shortB o = true := h2
      unfold shortB at h4
      have := of_decide_eq_true h4
      omega
    all_goals exact absurd hsh (by decide)
  · rw [F.t0 h3]
    decide
theorem line_len {o : OP9} {k : Nat} {r : SoR} (F : OpFit o k r) (h16 : k ≤ 16) (ht : o.t.size ≤ 1024) : (lineL o).length ≤ 4000 := by
  rw [row_word F.row o F.kk]
  have h1 := F.k1
  have hw : r.1.length ≤ 7 := by
    have hrow := F.row
    have hk : k = 1 ∨ k = 2 ∨ k = 3 ∨ k = 4 ∨ k = 5 ∨ k = 6 ∨ k = 7 ∨ k = 8 ∨ k = 9 ∨ k = 10 ∨ k = 11 ∨ k = 12 ∨ k = 13 ∨ k = 14 ∨ k = 15 ∨ k = 16 := by omega
    clear F
    rcases hk with rfl | rfl | rfl | rfl | rfl | rfl | rfl | rfl | rfl | rfl | rfl | rfl | rfl | rfl | rfl | rfl <;> (injection hrow with hrow; subst hrow; decide)
  rw [List.length_append]
  have hwr := writL_len o.t.data.toList
  have hts : o.t.data.toList.length = o.t.size := rfl
  split
  · rename_i e
    have := F.a (.inl e)
    have := itoa_len (n := o.a) (by omega) (by omega)
    simp
    omega
  · split
    · rename_i e
      have := F.a (.inr e)
      have := F.b e
      have := itoa_len (n := o.a) (by omega) (by omega)
      have := itoa_len (n := o.b) (by omega) (by omega)
      simp
      omega
    · split
      · simp
        omega
      · simp
        omega
theorem opLn_len : ∀ {l : List OP9}, (∀ o ∈ l, (lineL o).length ≤ 4000) → (opLn l).length ≤ l.length * 4001
  | [], _ => Nat.le_refl _
  | o :: l, h => by
    have h1 := h o (by simp)
    have h2 := opLn_len (l := l) fun o ho => h o (by simp [ho])
    have e : opLn (o :: l) = (lineL o ++ [10]) ++ opLn l := rfl
    rw [e, List.length_append, List.length_append]
    simp only [List.length_cons, List.length_nil]
    omega
def smallP (m : PM) : Prop := m.1.size ≤ 64 ∧ m.2.length ≤ 64 ∧ ∀ o ∈ m.2, (lineL o).length ≤ 4000
theorem progL_len {m : PM} (h : smallP m) : (progL m).length ≤ 260000 := by
  have h1 := opLn_len h.2.2
  have h2 : (opLn m.2).length ≤ 64 * 4001 := Nat.le_trans h1 (Nat.mul_le_mul_right _ h.2.1)
  have h3 : m.1.data.toList.length = m.1.size := rfl
  have h4 := h.1
  unfold progL
  simp only [List.length_append, List.length_cons, List.length_nil, h3]
  have : headL.length = 5 := rfl
  omega
theorem printL_len : ∀ {l : List PM}, (∀ m ∈ l, smallP m) → (printL l).length ≤ l.length * 260000
  | [], _ => Nat.le_refl _
  | m :: l, h => by
    have h1 := progL_len (h m (by simp))
    have h2 := printL_len (l := l) fun m hm => h m (by simp [hm])
    have e : printL (m :: l) = progL m ++ printL l := rfl
    rw [e, List.length_append, List.length_cons]
    omega
theorem check_small {l : List PM} (h : checkM l = 0) : ∀ m ∈ l, smallP m := fun m hm => by
  obtain ⟨k, hk⟩ := List.getElem?_of_mem hm
  have hl := check_len h
  obtain ⟨h1, h2, h3⟩ := check_prog h hk
  refine ⟨?_, h2, fun o ho => ?_⟩
  · unfold nmB at h1
    simp only [Bool.and_eq_true, decide_eq_true_eq] at h1
    omega
  · obtain ⟨j, r, F, hj⟩ := right_fit (by omega) (by omega) (h3 o ho)
    exact line_len F hj (right_text (by omega) (by omega) (h3 o ho))
abbrev PrintR (l : List PM) (w : World) : Ending → World → Prop := fun e w' => e = .returned (.tuple #[.string (strL (if checkM l = 0 then printL l else [])), .int .i64 (checkM l)]) ∧ Only [] w w'
set_option maxHeartbeats 4000000 in
theorem print_any19 (ps : List PG) (A : Option Addr) (c : Nat) (w : World) (h : Pgs w A c ps) (hS : SLib w) : Calls Tryz.prog 13 #[.slice A ps.length c] w (PrintR (ps.map PG.m) w) := by
  have hlen : ps.length ≤ maxLen := Nat.le_trans h.le h.max
  have hck := fun w h => check_any ps A c w h
  unfold CkR at hck
  refine Hs.enter Tryz.func13 [] [] [] [.c (.v (.slice A ps.length c))] (Mem.start0 w) (by kernel_rfl) (by kernel_rfl) ?_
  refine Hs.run0 300 (fun _ => by kernel_rfl) ?_
  refine Hs.callV (v := .int .i64 (checkM (ps.map PG.m))) (fun w' H => hck w' (h.only H.only)) (by kernel_rfl) ?_
  refine Hs.run0 300 (fun _ => by kernel_rfl) ?_
  refine Hs.cond (!decide (checkM (ps.map PG.m) = 0)) (by kernel_rfl) (fun h1 => ?_) (fun h1 => ?_)
  · have h1 : ¬ checkM (ps.map PG.m) = 0 := by simpa using h1
    refine Hs.run0 300 (fun _ => by kernel_rfl) ?_
    exact Hs.ret (v := .tuple #[.string ⟨#[]⟩, .int .i64 (checkM (ps.map PG.m))]) Tryz.func13 (by kernel_rfl) fun w' H => ⟨by rw [if_neg h1]; rfl, H.only⟩
  · have h1 : checkM (ps.map PG.m) = 0 := by simpa using h1
    have hck1 := check_len h1
    rw [List.length_map] at hck1
    have hsm : ∀ x ∈ ps, smallP x.m := fun x hx => check_small h1 x.m (List.mem_map_of_mem hx)
    obtain ⟨ab, aoff, hA, _, _⟩ := h.rd (by omega)
    have hrd := h.rd
    rw [hA] at hrd ⊢
    have hpre : ∀ i, (printL ((ps.take i).map PG.m)).length ≤ 32 * 260000 := fun i => by
      refine Nat.le_trans (printL_len fun m hm => ?_) (Nat.mul_le_mul_right _ ?_)
      · obtain ⟨x, hx, rfl⟩ := List.mem_map.1 hm
        exact hsm x (List.mem_of_mem_take hx)
      · rw [List.length_map, List.length_take]
        omega
    have J : ∀ (d i : Nat), ps.length - i = d → i ≤ ps.length → ∀ (bu : Bool) (A2 : Option Addr) (n c2 : Nat), (printL ((ps.take i).map PG.m)).length = n → ∀ (b0 g : Nat) (u : Nat → Value), Hs Tryz.prog 13 (PrintR (ps.map PG.m) w) (Tryz.f13).ntmps w [] [b0, g] ⟨.no, loopAt Tryz.f13 0, pins [(5, .c (.p 0 0)), (6, .c (.v (.func (.func 21) #[] #[.pointer (some ⟨b0, 0, none⟩)]))), (17, .c (.v (.slice (some ⟨ab, aoff, none⟩) ps.length c))), (18, .c (.v (.int .i64 ps.length))), (19, .c (.v (.int .i64 i)))] (.vals u), [buB b0 bu A2 n c2, .s A2 c2 n 5 1 ((u8v (printL ((ps.take i).map PG.m))).flatMap cu8)]⟩ := by
      intro d
      induction d with
      | zero =>
        intro i hd hi bu A2 n c2 hn b0 g u
        obtain rfl : i = ps.length := by omega
        rw [List.take_length] at hn ⊢
        refine Hs.run0 300 (fun _ => by kernel_rfl) ?_
        refine Hs.condP ((ps.length : Int) < (ps.length : Int)) (by kernel_rfl) (fun h => by omega) (fun _ => ?_)
        refine Hs.run0 300 (fun _ => by kernel_rfl) ?_
        refine Hs.callLast (.string (strL (printL (ps.map PG.m)))) (fun w' H => str_any19 0 1 (u := bu) (A := A2) (cap := c2) (l := printL (ps.map PG.m)) H (by decide) (by kernel_rfl) (by kernel_rfl) hn) (by kernel_rfl) (by kernel_rfl) ?_
        refine Hs.run0 300 (fun _ => by kernel_rfl) ?_
        exact Hs.ret (v := .tuple #[.string (strL (printL (ps.map PG.m))), .int .i64 0]) Tryz.func13 (by kernel_rfl) fun w' H => ⟨by rw [if_pos h1, h1], H.only⟩
      | succ d ih =>
        intro i hd hi bu A2 n c2 hn b0 g u
        have hil : i < ps.length := by omega
        obtain ⟨x, hx⟩ : ∃ x, ps[i]? = some x := ⟨_, List.getElem?_eq_getElem hil⟩
        have hxm : x ∈ ps := List.mem_of_getElem? hx
        have hxo := h.all x hxm
        have hih := fun bu A n cap h b3 g u => ih (i + 1) (by omega) (by omega) bu A n cap h b3 g u
        clear ih
        have hpl := hpre i
        have hsx := hsm x hxm
        have hor := hxo.1
        have hrt : ∀ o ∈ x.ops, rightB o i ps.length = true := by
          have := (check_prog h1 (k := i) (m := x.m) (by rw [List.getElem?_map, hx]; rfl)).2.2
          rwa [List.length_map] at this
        have htk : printL ((ps.take (i + 1)).map PG.m) = printL ((ps.take i).map PG.m) ++ progL x.m := by rw [List.take_add_one, hx, List.map_append, printL_app]; simp [printL]
        rw [htk] at hih
        generalize printL ((ps.take i).map PG.m) = O at *
        obtain ⟨xn, xA, xc, ops⟩ := x
        obtain ⟨nl, rfl⟩ : ∃ l, xn = strL l := ⟨_, strL_of xn⟩
        have hnl : nl.length ≤ 64 := hsx.1
        have hol : ops.length ≤ 64 := hsx.2.1
        have hol2 : ∀ o ∈ ops, (lineL o).length ≤ 4000 := hsx.2.2
        have hpr : progL (PG.m ⟨strL nl, xA, xc, ops⟩) = headL ++ nl ++ [10] ++ opLn ops := rfl
        rw [hpr] at hih
        have hh : headL.length = 5 := rfl
        have K : ∀ (e j : Nat), ops.length - j = e → j ≤ ops.length → ∀ (A3 : Option Addr) (n3 c3 : Nat), (O ++ (headL ++ nl ++ [10]) ++ opLn (ops.take j)).length = n3 → ∀ (b0 g : Nat) (u : Nat → Value), Hs Tryz.prog 13 (PrintR (ps.map PG.m) w) (Tryz.f13).ntmps w [] [b0, g] ⟨.no, loopAt Tryz.f13 1, pins [(5, .c (.p 0 0)), (6, .c (.v (.func (.func 21) #[] #[.pointer (some ⟨b0, 0, none⟩)]))), (17, .c (.v (.slice (some ⟨ab, aoff, none⟩) ps.length c))), (18, .c (.v (.int .i64 ps.length))), (19, .c (.v (.int .i64 i))), (29, .c (.v (.slice xA ops.length xc))), (30, .c (.v (.int .i64 ops.length))), (31, .c (.v (.int .i64 j)))] (.vals u), [buB b0 true A3 n3 c3, .s A3 c3 n3 5 1 ((u8v (O ++ (headL ++ nl ++ [10]) ++ opLn (ops.take j))).flatMap cu8)]⟩ := by
          intro e
          induction e with
          | zero =>
            intro j he hj A3 n3 c3 hn3 b0 g u
            obtain rfl : j = ops.length := by omega
            rw [List.take_length] at hn3 ⊢
            rw [List.append_assoc] at hn3 ⊢
            refine Hs.run0 300 (fun _ => by kernel_rfl) ?_
            refine Hs.condP ((ops.length : Int) < (ops.length : Int)) (by kernel_rfl) (fun h => by omega) (fun _ => ?_)
            refine Hs.run0 300 (fun _ => by kernel_rfl) ?_
            refine Hs.slot 19 (.c (.v (.int .i64 (i + 1 : Nat)))) rfl ((by kernel_rfl : _ = Value.int .i64 (IntKind.i64.wrap ((i : Int) + 1))).trans (wrap_nextJ hlen)) ?_
            refine Hs.loop (by kernel_rfl) ?_
            exact Hs.goto (loopAt Tryz.f13 0) [0, 1] [buB b0 true A3 n3 c3, .s A3 c3 n3 5 1 ((u8v (O ++ (headL ++ nl ++ [10] ++ opLn ops))).flatMap cu8)] [(5, .c (.p 0 0)), (6, .c (.v (.func (.func 21) #[] #[.pointer (some ⟨b0, 0, none⟩)]))), (17, .c (.v (.slice (some ⟨ab, aoff, none⟩) ps.length c))), (18, .c (.v (.int .i64 ps.length))), (19, .c (.v (.int .i64 (i + 1 : Nat))))] (by kernel_rfl) (by decide) (by kernel_rfl) (by kernel_rfl) (fun _ => (by kernel_rfl)) (fun u => hih true A3 n3 c3 hn3 b0 g u)
          | succ e ihk =>
            intro j he hj A3 n3 c3 hn3 b0 g u
            have hjl : j < ops.length := by omega
            obtain ⟨y, hy⟩ : ∃ y, ops[j]? = some y := ⟨_, List.getElem?_eq_getElem hjl⟩
            have hym : y ∈ ops := List.mem_of_getElem? hy
            obtain ⟨ob, ooff, hO, _, _⟩ := hor (by show 0 < ops.length; omega)
            dsimp only at hO
            have hihk := fun A n c h b0 g u => ihk (j + 1) (by omega) (by omega) A n c h b0 g u
            clear ihk
            have hor2 := hor
            dsimp only at hor2
            rw [hO] at hihk hor2 ⊢
            have hjk : opLn (ops.take (j + 1)) = opLn (ops.take j) ++ (lineL y ++ [10]) := by rw [List.take_add_one, hy, opLn_app]; simp [opLn]
            have hrd2 := hrt y hym
            obtain ⟨k, r, F, hk16⟩ := right_fit (by omega) (by omega) hrd2
            have hyt := right_text (by omega) (by omega) hrd2
            have hyl := hol2 y hym
            have hb3 : (opLn (ops.take j)).length ≤ 64 * 4001 := Nat.le_trans (opLn_len fun o ho => hol2 o (List.mem_of_mem_take ho)) (Nat.mul_le_mul_right _ (by rw [List.length_take]; omega))
            have hn4 : n3 ≤ 32 * 260000 + 70 + 64 * 4001 := by rw [← hn3]; simp; omega
            rw [hjk, ← List.append_assoc] at hihk
            generalize O ++ (headL ++ nl ++ [10]) ++ opLn (ops.take j) = O3 at *
            refine Hs.run0 300 (fun _ => by kernel_rfl) ?_
            refine Hs.condP ((j : Int) < (ops.length : Int)) (by kernel_rfl) (fun _ => ?_) (fun h => by omega)
            refine Hs.run0 300 (fun _ => by kernel_rfl) ?_
            refine Hs.idx (b := ob) (off := ooff) (len := ops.length) (c := xc) (i := j) elemPo hjl (by kernel_rfl) ?_
            refine Hs.ldx (cf := cOP) (size := 4) (E := 36) (b := ob) (off := ooff) (i := j) (l := ops) (x := y) cOP_len (.g y.sc) (by kernel_rfl) (fun w' H => hor2.only H.only) hy (by kernel_rfl) (by kernel_rfl) rfl (by kernel_rfl) ?_
            refine Hs.run1 300 (fun _ => by kernel_rfl) fun b2 => ?_
            refine Hs.callV (v := .string (strL (lineL y))) (fun w' H => line_any y k r F hk16 hyt w' (hS.only H.only)) (by kernel_rfl) ?_
            refine Hs.run0 300 (fun _ => by kernel_rfl) ?_
            refine Hs.callBS 0 1 (T := 65) (cs0 := [.v (bdV b0 true), .v (.slice A3 n3 c3)]) (.tuple #[]) (fun A' cap' => [.v (bdV b0 true), .v (.slice A' (n3 + ((lineL y).length + 1)) cap')]) (u8v O3) (u8v (O3 ++ (lineL y ++ [10]))) n3 (n3 + ((lineL y).length + 1)) (by rw [u8v_len, hn3]) (by rw [u8v_len]; simp [hn3]) (by decide) (by kernel_rfl) (by kernel_rfl) (fun w' H hB hW hne => put_any19 b0 true A3 n3 c3 O3 (lineL y) w' ⟨hB, hW, by rw [u8v_len, hn3], hne⟩ (by omega)) (by kernel_rfl) (by kernel_rfl) (fun _ _ => (by kernel_rfl)) fun A4 c4 _ _ => ?_
            refine Hs.run0 300 (fun _ => by kernel_rfl) ?_
            refine Hs.slot 31 (.c (.v (.int .i64 (j + 1 : Nat)))) rfl ((by kernel_rfl : _ = Value.int .i64 (IntKind.i64.wrap ((j : Int) + 1))).trans (wrap_nextJ (Nat.le_trans hxo.2.1 hxo.2.2))) ?_
            refine Hs.loop (by kernel_rfl) ?_
            exact Hs.goto (loopAt Tryz.f13 1) [0, 1] [buB b0 true A4 (n3 + ((lineL y).length + 1)) c4, .s A4 c4 (n3 + ((lineL y).length + 1)) 5 1 ((u8v (O3 ++ (lineL y ++ [10]))).flatMap cu8)] [(5, .c (.p 0 0)), (6, .c (.v (.func (.func 21) #[] #[.pointer (some ⟨b0, 0, none⟩)]))), (17, .c (.v (.slice (some ⟨ab, aoff, none⟩) ps.length c))), (18, .c (.v (.int .i64 ps.length))), (19, .c (.v (.int .i64 i))), (29, .c (.v (.slice (some ⟨ob, ooff, none⟩) ops.length xc))), (30, .c (.v (.int .i64 ops.length))), (31, .c (.v (.int .i64 (j + 1 : Nat))))] (by kernel_rfl) (by decide) (by kernel_rfl) (by kernel_rfl) (fun _ => (by kernel_rfl)) (fun u => hihk A4 (n3 + ((lineL y).length + 1)) c4 (by simp [hn3]) b0 g u)
        refine Hs.run0 300 (fun _ => by kernel_rfl) ?_
        refine Hs.condP ((i : Int) < (ps.length : Int)) (by kernel_rfl) (fun _ => ?_) (fun h => by omega)
        refine Hs.run0 300 (fun _ => by kernel_rfl) ?_
        refine Hs.idx (b := ab) (off := aoff) (len := ps.length) (c := c) (i := i) elemPr hil (by kernel_rfl) ?_
        refine Hs.ldx (cf := cPG) (size := 2) (E := 33) (b := ab) (off := aoff) (i := i) (l := ps) (x := ⟨strL nl, xA, xc, ops⟩) cPG_len (.g (PG.sc ⟨strL nl, xA, xc, ops⟩)) (by kernel_rfl) (fun w' H => hrd.only H.only) hx (by kernel_rfl) (by kernel_rfl) rfl (by kernel_rfl) ?_
        refine Hs.run1 8 (fun _ => by kernel_rfl) fun b2 => ?_
        refine Hs.cat (T := 9) headL nl (by omega) (by kernel_rfl) ?_
        refine Hs.run0 300 (fun _ => by kernel_rfl) ?_
        refine Hs.callBS 0 1 (T := 65) (cs0 := [.v (bdV b0 bu), .v (.slice A2 n c2)]) (.tuple #[]) (fun A' cap' => [.v (bdV b0 true), .v (.slice A' (n + ((headL ++ nl).length + 1)) cap')]) (u8v O) (u8v (O ++ (headL ++ nl ++ [10]))) n (n + ((headL ++ nl).length + 1)) (by rw [u8v_len, hn]) (by rw [u8v_len]; simp only [List.length_append, List.length_cons, List.length_nil, hn]; try omega) (by decide) (by kernel_rfl) (by kernel_rfl) (fun w' H hB hW hne => put_any19 b0 bu A2 n c2 O (headL ++ nl) w' ⟨hB, hW, by rw [u8v_len, hn], hne⟩ (by simp; omega)) (by kernel_rfl) (by kernel_rfl) (fun _ _ => (by kernel_rfl)) fun A4 c4 _ _ => ?_
        refine Hs.run0 300 (fun _ => by kernel_rfl) ?_
        refine Hs.loop (by kernel_rfl) ?_
        have e0 : O ++ (headL ++ nl ++ [10]) = O ++ (headL ++ nl ++ [10]) ++ opLn (ops.take 0) := by simp [opLn]
        exact Hs.goto (loopAt Tryz.f13 1) [0, 1] [buB b0 true A4 (n + ((headL ++ nl).length + 1)) c4, .s A4 c4 (n + ((headL ++ nl).length + 1)) 5 1 ((u8v (O ++ (headL ++ nl ++ [10]))).flatMap cu8)] [(5, .c (.p 0 0)), (6, .c (.v (.func (.func 21) #[] #[.pointer (some ⟨b0, 0, none⟩)]))), (17, .c (.v (.slice (some ⟨ab, aoff, none⟩) ps.length c))), (18, .c (.v (.int .i64 ps.length))), (19, .c (.v (.int .i64 i))), (29, .c (.v (.slice xA ops.length xc))), (30, .c (.v (.int .i64 ops.length))), (31, .c (.v (.int .i64 (0 : Nat))))] (by kernel_rfl) (by decide) (by kernel_rfl) (by kernel_rfl) (fun _ => (by kernel_rfl)) (fun u => by
          have := K ops.length 0 (by omega) (by omega) A4 (n + ((headL ++ nl).length + 1)) c4 (by simp only [List.length_append, List.length_cons, List.length_nil, hn, opLn, List.take_zero, List.flatMap_nil]; omega) b0 g u
          rwa [← e0] at this)
    refine Hs.run1 300 (fun _ => by kernel_rfl) fun b0 => ?_
    refine Hs.nilS 5 1 (by kernel_rfl) ?_ (by kernel_rfl)
    refine Hs.loop (by kernel_rfl) ?_
    exact Hs.goto (loopAt Tryz.f13 0) [0, 1] [buB b0 false none 0 0, .s none 0 0 5 1 ((u8v (printL ((ps.take 0).map PG.m))).flatMap cu8)] [(5, .c (.p 0 0)), (6, .c (.v (.func (.func 21) #[] #[.pointer (some ⟨b0, 0, none⟩)]))), (17, .c (.v (.slice (some ⟨ab, aoff, none⟩) ps.length c))), (18, .c (.v (.int .i64 ps.length))), (19, .c (.v (.int .i64 (0 : Nat))))] (by kernel_rfl) (by decide) (by kernel_rfl) (by kernel_rfl) (fun _ => (by kernel_rfl)) (fun u => J ps.length 0 (by omega) (by omega) false none 0 0 (by simp [printL]) b0 0 u)
end Go.Proofs.YtmmcamkmglpgiaaGreatDoor

namespace Go.Proofs.YtmmcamkmglpgiaaGreatDoor
set_option linter.all false
set_option maxRecDepth 100000
open Go.RowKit

/-- The operation i, which stands under a guard that is met. -/
def semAtG (ge : List Nat) (i : Nat) (n : Nat) (β : List Nat) (m : SM) : Option (Sem Next × List Nat) := match m.r with
  | .any ops (_ + 1) lm rd => match ops[i]? with
    | some o => match gTake n ge ops m.sl o with
      | some true => match (rdyL lm ops.toList 0).contains i && (freeL ops lm i o ops.toList 0 && reachB ops lm rd i) with
        | true => some (execOp (fun x => (evS n m.sl x).den β) o, rdE ops lm rd)
        | false => none
      | _ => none
    | none => none
  | _ => none
section
variable {P : Program} {f : FR} {R : Ending → World → Prop} {n : Nat} {w0 : World} {L : List Nat} {β : List Nat} {m : SM}
theorem Hs.takeVG (ge : List Nat) (i : Nat) {s : Sem Value} {rd : List Nat} (v : SV) (hs : semAtG ge i n β m = some (valS s, rd)) (hv : v.wf m.hp.length = true) (h : ∀ w, IR β m.hp rd w → s.run P w = .ok (v.den β) w) (k : Hs P f R n w0 L β (takeM i v m)) : Hs P f R n w0 L β m := by
  refine ⟨fun w H W => ?_⟩
  have hI : ∀ rd, IR β m.hp rd w := fun _ k _ h hh => H.lies k h hh
  obtain ⟨r, todo, sl, hp⟩ := m
  unfold semAtG at hs
  dsimp only at hs
  split at hs
  · rename_i ops fuel lm rd'
    split at hs
    · rename_i o ho
      split at hs
      · rename_i hg
        split at hs
        · rename_i hcond
          injection hs with hs
          injection hs with hs1 hs2
          subst hs2
          simp only [Bool.and_eq_true] at hcond
          obtain ⟨hmem, hfree, hrb⟩ := hcond
          intro hcl hlm hns
          have hil : i < ops.size := (Array.getElem?_eq_some_iff.1 ho).1
          have hready : i ∈ Region.ready .any ops (listedOf ops.size lm) := by rw [rdy_spec hlm]; simpa using hmem
          have hcl' : Closed .any ops (listedOf ops.size (setBit lm i)) := by rw [← listed_set hil]; exact hcl.set hready
          have g := k.go w H (by
            simp only [SM.wf, takeM, Bool.and_eq_true]
            exact ⟨putS_wf (SM.wf_sl W) hv, SM.wf_hp W⟩)
          have g2 := g hcl' (hlm.set hil) hns
          simp only [takeM, ho, Option.bind_some] at g2
          have hap : ∀ j oj, ops[j]? = some oj → j ≠ i → (listedOf ops.size lm).getD j true = false → (∀ e ∈ oj.after, Region.binds .any e = true → e.on ≠ i) → o.apart ops oj = true := fun j oj hj hne hun hno => by
            refine freeL_spec ops.toList 0 hfree j oj (by simpa using hj) ?_ (by simpa using hne) hno
            rw [Nat.zero_add]; exact (listed_false.1 hun).2
          have g3 : wpAnyE P .any ops (QQ P f R todo) (IR β hp (rdsOf rd')) (esOf rd') fuel ((listedOf ops.size lm).setIfInBounds i true) ((fr n β sl).put o.dst (v.den β)) w := by
            rw [listed_set hil, fr_put]; exact g2
          have hyld : ∀ w', IR β hp (rdE ops lm rd') w' → YieldsAt P ops w' o (v.den β) (fr n β sl) := fun w' hI' => .inl ⟨gTake_spec hg, .inl (by
            rw [fr_eval, hs1]; simp only [valS, Sem.run_bind, h w' hI', Result.andThen_ok, Sem.run_pure])⟩
          unfold rdE at hyld
          cases hb : hitB ops lm rd' with
          | true =>
            rw [hb] at hyld
            refine wpAnyE_hit _ _ _ _ (not_noE hb) ?_
            exact takeE (v := v.den β) ho (Region.noSelect_spec hns) (fun c a w hp => by cases hp.1) 0 (fun e he => by cases he) fuel _ _ w hcl (fun e he => by cases he) trivial hap hready (fun w' _ => hyld w' (fun k hk => by cases hk)) (wpAnyE_true _ _ _ _ g3)
          | false =>
            rw [hb] at hyld
            unfold reachB at hrb
            rw [hb, Bool.false_or] at hrb
            exact takeE (v := v.den β) ho (Region.noSelect_spec hns) (fun c a w hp => by cases hp.1) ops.size (fun e he => List.all_eq_true.1 hrb e he) fuel _ _ w hcl (noE_of hb) (hI _) hap hready (fun w' hI' => hyld w' hI') g3
        · cases hs
      · cases hs
    · cases hs
  · cases hs
variable {tS E size bytes : Nat}
theorem Hs.takeIdxG (ge : List Nat) (j : Nat) (ht : ElemT P tS E size bytes) {rd : List Nat} {b off len c i : Nat} (hi : i < len) (hs : semAtG ge j n β m = some (valS (Instr.indexAt tS (.slice (some ⟨b, off, none⟩) len c) (.int .i64 i)), rd)) (h : Hs P f R n w0 L β (takeM j (.c (.v (.pointer (some ⟨b, off + i * size, none⟩)))) m)) : Hs P f R n w0 L β m :=
  Hs.takeVG ge j (.c (.v (.pointer (some ⟨b, off + i * size, none⟩)))) hs rfl (fun w _ => run_idx ht hi w) h
end
end Go.Proofs.YtmmcamkmglpgiaaGreatDoor

namespace Go.Proofs.YtmmcamkmglpgiaaGreatDoor
open Go.RowKit
set_option linter.all false
set_option maxRecDepth 100000
set_option maxHeartbeats 4000000 in
theorem rsame19_any (xs ys : List PG) (A B : Option Addr) (ca cb : Nat) (w : World) (ha : Pgs w A ca xs) (hb : Pgs w B cb ys) (hm : ys.map PG.m = xs.map PG.m) : Calls Tryz.prog 15 #[.slice A xs.length ca, .slice B ys.length cb] w fun e w' => e = .returned (.bool true) ∧ Only [] w w' := by
  have hl : ys.length = xs.length := by simpa using congrArg List.length hm
  rw [hl]
  have hlen : xs.length ≤ maxLen := Nat.le_trans ha.le ha.max
  have J : ∀ (d i : Nat), xs.length - i = d → i ≤ xs.length → ∀ (u : Nat → Value), Hs Tryz.prog 15 (fun e w' => e = .returned (.bool true) ∧ Only [] w w') (Tryz.f15).ntmps w [] [] ⟨.no, loopAt Tryz.f15 0, pins [(0, .c (.v (.slice A xs.length ca))), (1, .c (.v (.slice B xs.length cb))), (13, .c (.v (.int .i64 xs.length))), (14, .c (.v (.int .i64 i)))] (.vals u), []⟩ := by
    intro d
    induction d with
    | zero =>
      intro i hd hi u
      obtain rfl : i = xs.length := by omega
      refine Hs.run0 300 (fun _ => by kernel_rfl) ?_
      refine Hs.condP ((xs.length : Int) < (xs.length : Int)) (by kernel_rfl) (fun h => by omega) (fun _ => ?_)
      refine Hs.run0 300 (fun _ => by kernel_rfl) ?_
      exact Hs.ret (v := .bool true) Tryz.func15 (by kernel_rfl) fun w' H => ⟨rfl, H.only⟩
    | succ d ih =>
      intro i hd hi u
      have hil : i < xs.length := by omega
      obtain ⟨x, h1⟩ : ∃ x, xs[i]? = some x := ⟨_, List.getElem?_eq_getElem hil⟩
      obtain ⟨y, h2⟩ : ∃ y, ys[i]? = some y := ⟨_, List.getElem?_eq_getElem (by omega)⟩
      have e : (ys.map PG.m)[i]? = (xs.map PG.m)[i]? := by rw [hm]
      rw [List.getElem?_map, List.getElem?_map, h1, h2] at e
      have o1 := ha.all x (List.mem_of_getElem? h1)
      have o2 := hb.all y (List.mem_of_getElem? h2)
      obtain ⟨n1, A1, c1, p1⟩ := x
      obtain ⟨n2, A2, c2, p2⟩ := y
      injection e with e
      injection e with e3 e4
      have e3 : n2 = n1 := e3
      have e4 : p2 = p1 := e4
      subst e3
      subst e4
      have r1 : RdX cOP w A1 p2 := o1.1
      have r2 : RdX cOP w A2 p2 := o2.1
      have hpl : p2.length ≤ maxLen := Nat.le_trans o1.2.1 o1.2.2
      obtain ⟨ab, aoff, hA, _, _⟩ := ha.rd (by omega)
      obtain ⟨bb, boff, hB, _, _⟩ := hb.rd (by omega)
      have hih := fun u => ih (i + 1) (by omega) (by omega) u
      clear ih
      have ra := ha.rd
      have rb := hb.rd
      subst hA; subst hB
      have K : ∀ (e j : Nat), p2.length - j = e → j ≤ p2.length → ∀ (u : Nat → Value), Hs Tryz.prog 15 (fun e w' => e = .returned (.bool true) ∧ Only [] w w') (Tryz.f15).ntmps w [] [] ⟨.no, loopAt Tryz.f15 1, pins [(0, .c (.v (.slice (some ⟨ab, aoff, none⟩) xs.length ca))), (1, .c (.v (.slice (some ⟨bb, boff, none⟩) xs.length cb))), (5, .c (.v (.int .i64 i))), (13, .c (.v (.int .i64 xs.length))), (14, .c (.v (.int .i64 i))), (48, .c (.v (.int .i64 p2.length))), (49, .c (.v (.int .i64 j)))] (.vals u), []⟩ := by
        intro e
        induction e with
        | zero =>
          intro j he hj u
          obtain rfl : j = p2.length := by omega
          refine Hs.run0 300 (fun _ => by kernel_rfl) ?_
          refine Hs.condP ((p2.length : Int) < (p2.length : Int)) (by kernel_rfl) (fun h => by omega) (fun _ => ?_)
          refine Hs.run0 300 (fun _ => by kernel_rfl) ?_
          refine Hs.slot 14 (.c (.v (.int .i64 (i + 1 : Nat)))) rfl ((by kernel_rfl : _ = Value.int .i64 (IntKind.i64.wrap ((i : Int) + 1))).trans (wrap_nextJ hlen)) ?_
          refine Hs.loop (by kernel_rfl) ?_
          exact Hs.goto (loopAt Tryz.f15 0) [] [] [(0, .c (.v (.slice (some ⟨ab, aoff, none⟩) xs.length ca))), (1, .c (.v (.slice (some ⟨bb, boff, none⟩) xs.length cb))), (13, .c (.v (.int .i64 xs.length))), (14, .c (.v (.int .i64 (i + 1 : Nat))))] (by kernel_rfl) (by decide) (by kernel_rfl) (by kernel_rfl) (fun _ => (by kernel_rfl)) (fun u => hih u)
        | succ e ihk =>
          intro j he hj u
          have hjl : j < p2.length := by omega
          obtain ⟨z, hz⟩ : ∃ z, p2[j]? = some z := ⟨_, List.getElem?_eq_getElem hjl⟩
          obtain ⟨pb, poff, hP, _, _⟩ := r1 (by omega)
          obtain ⟨qb, qoff, hQ, _, _⟩ := r2 (by omega)
          have hihk := fun u => ihk (j + 1) (by omega) (by omega) u
          clear ihk
          subst hP; subst hQ
          refine Hs.run0 300 (fun _ => by kernel_rfl) ?_
          refine Hs.condP ((j : Int) < (p2.length : Int)) (by kernel_rfl) (fun _ => ?_) (fun h => by omega)
          refine Hs.run0 300 (fun _ => by kernel_rfl) ?_
          refine Hs.any [] (by kernel_rfl) ?_
          refine Hs.run0 300 (fun _ => by kernel_rfl) ?_
          refine Hs.takeIdx (rd := []) 2 elemRp (b := ab) (off := aoff) (c := ca) (len := xs.length) (i := i) hil (by kernel_rfl) ?_
          refine Hs.takeIdx (rd := []) 10 elemRp (b := bb) (off := boff) (c := cb) (len := xs.length) (i := i) hil (by kernel_rfl) ?_
          refine Hs.rung0 [] 2 (fun _ => by kernel_rfl) ?_
          apply Hs.share0 (β' := [])
          · intro K
            refine Hs.branch2 4 12 (by kernel_rfl) ?_ ?_
            · refine Hs.ldc (E' := 49) (b := ab) (off := aoff + i * 2 + 1) (.slice (some ⟨pb, poff, none⟩) p2.length c1) (by kernel_rfl) (fun w' H => rdX_cell cPG_len (ra.only H.only) h1 (j := 1) (v := .slice (some ⟨pb, poff, none⟩) p2.length c1) rfl) (by kernel_rfl) ?_
              refine Hs.takeIdx (rd := []) 6 elemRo (b := pb) (off := poff) (c := c1) (len := p2.length) (i := j) hjl (by kernel_rfl) ?_
              refine Hs.branch2 7 12 (by kernel_rfl) ?_ ?_
              · refine Hs.ldx (cf := cOP) (size := 4) (E := 52) (b := pb) (off := poff) (i := j) (l := p2) (x := z) cOP_len (.g z.sc) (by kernel_rfl) (fun w' H => r1.only H.only) hz (by kernel_rfl) (by kernel_rfl) rfl (by kernel_rfl) ?_
                refine Hs.sel1 12 (by kernel_rfl) ?_
                refine Hs.ldc (E' := 49) (b := bb) (off := boff + i * 2 + 1) (.slice (some ⟨qb, qoff, none⟩) p2.length c2) (by kernel_rfl) (fun w' H => rdX_cell cPG_len (rb.only H.only) h2 (j := 1) (v := .slice (some ⟨qb, qoff, none⟩) p2.length c2) rfl) (by kernel_rfl) ?_
                refine Hs.takeIdx (rd := []) 14 elemRo (b := qb) (off := qoff) (c := c2) (len := p2.length) (i := j) hjl (by kernel_rfl) ?_
                refine Hs.sel1 15 (by kernel_rfl) ?_
                refine Hs.ldx (cf := cOP) (size := 4) (E := 52) (b := qb) (off := qoff) (i := j) (l := p2) (x := z) cOP_len (.g z.sc) (by kernel_rfl) (fun w' H => r2.only H.only) hz (by kernel_rfl) (by kernel_rfl) rfl (by kernel_rfl) ?_
                exact K
              · refine Hs.ldc (E' := 49) (b := bb) (off := boff + i * 2 + 1) (.slice (some ⟨qb, qoff, none⟩) p2.length c2) (by kernel_rfl) (fun w' H => rdX_cell cPG_len (rb.only H.only) h2 (j := 1) (v := .slice (some ⟨qb, qoff, none⟩) p2.length c2) rfl) (by kernel_rfl) ?_
                refine Hs.takeIdx (rd := []) 14 elemRo (b := qb) (off := qoff) (c := c2) (len := p2.length) (i := j) hjl (by kernel_rfl) ?_
                refine Hs.branch2 7 15 (by kernel_rfl) ?_ ?_
                · refine Hs.ldx (cf := cOP) (size := 4) (E := 52) (b := pb) (off := poff) (i := j) (l := p2) (x := z) cOP_len (.g z.sc) (by kernel_rfl) (fun w' H => r1.only H.only) hz (by kernel_rfl) (by kernel_rfl) rfl (by kernel_rfl) ?_
                  refine Hs.sel1 15 (by kernel_rfl) ?_
                  refine Hs.ldx (cf := cOP) (size := 4) (E := 52) (b := qb) (off := qoff) (i := j) (l := p2) (x := z) cOP_len (.g z.sc) (by kernel_rfl) (fun w' H => r2.only H.only) hz (by kernel_rfl) (by kernel_rfl) rfl (by kernel_rfl) ?_
                  exact Hs.eqM K (by kernel_rfl) (by kernel_rfl)
                · refine Hs.ldx (cf := cOP) (size := 4) (E := 52) (b := qb) (off := qoff) (i := j) (l := p2) (x := z) cOP_len (.g z.sc) (by kernel_rfl) (fun w' H => r2.only H.only) hz (by kernel_rfl) (by kernel_rfl) rfl (by kernel_rfl) ?_
                  refine Hs.sel1 7 (by kernel_rfl) ?_
                  refine Hs.ldx (cf := cOP) (size := 4) (E := 52) (b := pb) (off := poff) (i := j) (l := p2) (x := z) cOP_len (.g z.sc) (by kernel_rfl) (fun w' H => r1.only H.only) hz (by kernel_rfl) (by kernel_rfl) rfl (by kernel_rfl) ?_
                  exact Hs.eqM K (by kernel_rfl) (by kernel_rfl)
            · refine Hs.ldc (E' := 49) (b := bb) (off := boff + i * 2 + 1) (.slice (some ⟨qb, qoff, none⟩) p2.length c2) (by kernel_rfl) (fun w' H => rdX_cell cPG_len (rb.only H.only) h2 (j := 1) (v := .slice (some ⟨qb, qoff, none⟩) p2.length c2) rfl) (by kernel_rfl) ?_
              refine Hs.takeIdx (rd := []) 14 elemRo (b := qb) (off := qoff) (c := c2) (len := p2.length) (i := j) hjl (by kernel_rfl) ?_
              refine Hs.branch2 4 15 (by kernel_rfl) ?_ ?_
              · refine Hs.ldc (E' := 49) (b := ab) (off := aoff + i * 2 + 1) (.slice (some ⟨pb, poff, none⟩) p2.length c1) (by kernel_rfl) (fun w' H => rdX_cell cPG_len (ra.only H.only) h1 (j := 1) (v := .slice (some ⟨pb, poff, none⟩) p2.length c1) rfl) (by kernel_rfl) ?_
                refine Hs.takeIdx (rd := []) 6 elemRo (b := pb) (off := poff) (c := c1) (len := p2.length) (i := j) hjl (by kernel_rfl) ?_
                refine Hs.branch2 7 15 (by kernel_rfl) ?_ ?_
                · refine Hs.ldx (cf := cOP) (size := 4) (E := 52) (b := pb) (off := poff) (i := j) (l := p2) (x := z) cOP_len (.g z.sc) (by kernel_rfl) (fun w' H => r1.only H.only) hz (by kernel_rfl) (by kernel_rfl) rfl (by kernel_rfl) ?_
                  refine Hs.sel1 15 (by kernel_rfl) ?_
                  refine Hs.ldx (cf := cOP) (size := 4) (E := 52) (b := qb) (off := qoff) (i := j) (l := p2) (x := z) cOP_len (.g z.sc) (by kernel_rfl) (fun w' H => r2.only H.only) hz (by kernel_rfl) (by kernel_rfl) rfl (by kernel_rfl) ?_
                  exact Hs.eqM K (by kernel_rfl) (by kernel_rfl)
                · refine Hs.ldx (cf := cOP) (size := 4) (E := 52) (b := qb) (off := qoff) (i := j) (l := p2) (x := z) cOP_len (.g z.sc) (by kernel_rfl) (fun w' H => r2.only H.only) hz (by kernel_rfl) (by kernel_rfl) rfl (by kernel_rfl) ?_
                  refine Hs.sel1 7 (by kernel_rfl) ?_
                  refine Hs.ldx (cf := cOP) (size := 4) (E := 52) (b := pb) (off := poff) (i := j) (l := p2) (x := z) cOP_len (.g z.sc) (by kernel_rfl) (fun w' H => r1.only H.only) hz (by kernel_rfl) (by kernel_rfl) rfl (by kernel_rfl) ?_
                  exact Hs.eqM K (by kernel_rfl) (by kernel_rfl)
              · refine Hs.ldx (cf := cOP) (size := 4) (E := 52) (b := qb) (off := qoff) (i := j) (l := p2) (x := z) cOP_len (.g z.sc) (by kernel_rfl) (fun w' H => r2.only H.only) hz (by kernel_rfl) (by kernel_rfl) rfl (by kernel_rfl) ?_
                refine Hs.sel1 4 (by kernel_rfl) ?_
                refine Hs.ldc (E' := 49) (b := ab) (off := aoff + i * 2 + 1) (.slice (some ⟨pb, poff, none⟩) p2.length c1) (by kernel_rfl) (fun w' H => rdX_cell cPG_len (ra.only H.only) h1 (j := 1) (v := .slice (some ⟨pb, poff, none⟩) p2.length c1) rfl) (by kernel_rfl) ?_
                refine Hs.takeIdx (rd := []) 6 elemRo (b := pb) (off := poff) (c := c1) (len := p2.length) (i := j) hjl (by kernel_rfl) ?_
                refine Hs.sel1 7 (by kernel_rfl) ?_
                refine Hs.ldx (cf := cOP) (size := 4) (E := 52) (b := pb) (off := poff) (i := j) (l := p2) (x := z) cOP_len (.g z.sc) (by kernel_rfl) (fun w' H => r1.only H.only) hz (by kernel_rfl) (by kernel_rfl) rfl (by kernel_rfl) ?_
                exact Hs.eqM K (by kernel_rfl) (by kernel_rfl)
          refine Hs.sel1 16 (by kernel_rfl) ?_
          refine Hs.same (op := .neq) (T := 52) #[.int .i64 z.k, .int .i64 z.a, .int .i64 z.b, .string z.t] false (by kernel_rfl) (.inr ⟨rfl, rfl⟩) (by kernel_rfl) ?_
          refine Hs.run0 300 (fun _ => by kernel_rfl) ?_
          refine Hs.condF (by kernel_rfl) ?_
          refine Hs.run0 300 (fun _ => by kernel_rfl) ?_
          refine Hs.slot 49 (.c (.v (.int .i64 (j + 1 : Nat)))) rfl ((by kernel_rfl : _ = Value.int .i64 (IntKind.i64.wrap ((j : Int) + 1))).trans (wrap_nextJ hpl)) ?_
          refine Hs.loop (by kernel_rfl) ?_
          exact Hs.goto (loopAt Tryz.f15 1) [] [] [(0, .c (.v (.slice (some ⟨ab, aoff, none⟩) xs.length ca))), (1, .c (.v (.slice (some ⟨bb, boff, none⟩) xs.length cb))), (5, .c (.v (.int .i64 i))), (13, .c (.v (.int .i64 xs.length))), (14, .c (.v (.int .i64 i))), (48, .c (.v (.int .i64 p2.length))), (49, .c (.v (.int .i64 (j + 1 : Nat))))] (by kernel_rfl) (by decide) (by kernel_rfl) (by kernel_rfl) (fun _ => (by kernel_rfl)) (fun u => hihk u)
      refine Hs.run0 300 (fun _ => by kernel_rfl) ?_
      refine Hs.condP ((i : Int) < (xs.length : Int)) (by kernel_rfl) (fun _ => ?_) (fun h => by omega)
      refine Hs.run0 300 (fun _ => by kernel_rfl) ?_
      refine Hs.any [] (by kernel_rfl) ?_
      refine Hs.run0 300 (fun _ => by kernel_rfl) ?_
      refine Hs.takeIdx (rd := []) 2 elemRp (b := ab) (off := aoff) (c := ca) (len := xs.length) (i := i) hil (by kernel_rfl) ?_
      refine Hs.takeIdx (rd := []) 7 elemRp (b := bb) (off := boff) (c := cb) (len := xs.length) (i := i) hil (by kernel_rfl) ?_
      refine Hs.rung0 [] 2 (fun _ => by kernel_rfl) ?_
      apply Hs.share0 (β' := [])
      · intro K1
        refine Hs.branch2 4 9 (by kernel_rfl) ?_ ?_
        · refine Hs.ldc (E' := 9) (b := ab) (off := aoff + i * 2 + 0) (.string n2) (by kernel_rfl) (fun w' H => rdX_cell cPG_len (ra.only H.only) h1 (j := 0) (v := .string n2) rfl) (by kernel_rfl) ?_
          refine Hs.sel1 9 (by kernel_rfl) ?_
          refine Hs.ldc (E' := 9) (b := bb) (off := boff + i * 2 + 0) (.string n2) (by kernel_rfl) (fun w' H => rdX_cell cPG_len (rb.only H.only) h2 (j := 0) (v := .string n2) rfl) (by kernel_rfl) ?_
          exact K1
        · refine Hs.ldc (E' := 9) (b := bb) (off := boff + i * 2 + 0) (.string n2) (by kernel_rfl) (fun w' H => rdX_cell cPG_len (rb.only H.only) h2 (j := 0) (v := .string n2) rfl) (by kernel_rfl) ?_
          refine Hs.sel1 4 (by kernel_rfl) ?_
          refine Hs.ldc (E' := 9) (b := ab) (off := aoff + i * 2 + 0) (.string n2) (by kernel_rfl) (fun w' H => rdX_cell cPG_len (ra.only H.only) h1 (j := 0) (v := .string n2) rfl) (by kernel_rfl) ?_
          exact Hs.eqM K1 (by kernel_rfl) (by kernel_rfl)
      refine Hs.run0 300 (fun _ => by kernel_rfl) ?_
      refine Hs.bool 28 (!(n2.toList == n2.toList)) (by kernel_rfl) (fun h => by simp at h) (fun _ => ?_)
      refine Hs.rung0 [11] 300 (fun _ => by kernel_rfl) ?_
      refine Hs.takeIdxG (rd := []) [11] 14 elemRp (b := ab) (off := aoff) (c := ca) (len := xs.length) (i := i) hil (by kernel_rfl) ?_
      refine Hs.takeIdxG (rd := []) [11] 20 elemRp (b := bb) (off := boff) (c := cb) (len := xs.length) (i := i) hil (by kernel_rfl) ?_
      refine Hs.rung0 [11] 2 (fun _ => by kernel_rfl) ?_
      apply Hs.share0 (β' := [])
      · intro K2
        refine Hs.branch2 16 22 (by kernel_rfl) ?_ ?_
        · refine Hs.rung0 [11] 1 (fun _ => by kernel_rfl) ?_
          refine Hs.ldc (E' := 49) (b := ab) (off := aoff + i * 2 + 1) (.slice A1 p2.length c1) (by kernel_rfl) (fun w' H => rdX_cell cPG_len (ra.only H.only) h1 (j := 1) (v := .slice A1 p2.length c1) rfl) (by kernel_rfl) ?_
          refine Hs.rung0 [11] 300 (fun _ => by kernel_rfl) ?_
          refine Hs.ldc (E' := 49) (b := bb) (off := boff + i * 2 + 1) (.slice A2 p2.length c2) (by kernel_rfl) (fun w' H => rdX_cell cPG_len (rb.only H.only) h2 (j := 1) (v := .slice A2 p2.length c2) rfl) (by kernel_rfl) ?_
          refine Hs.rung0 [11] 300 (fun _ => by kernel_rfl) ?_
          exact K2
        · refine Hs.rung0 [11] 1 (fun _ => by kernel_rfl) ?_
          refine Hs.ldc (E' := 49) (b := bb) (off := boff + i * 2 + 1) (.slice A2 p2.length c2) (by kernel_rfl) (fun w' H => rdX_cell cPG_len (rb.only H.only) h2 (j := 1) (v := .slice A2 p2.length c2) rfl) (by kernel_rfl) ?_
          refine Hs.rung0 [11] 300 (fun _ => by kernel_rfl) ?_
          refine Hs.ldc (E' := 49) (b := ab) (off := aoff + i * 2 + 1) (.slice A1 p2.length c1) (by kernel_rfl) (fun w' H => rdX_cell cPG_len (ra.only H.only) h1 (j := 1) (v := .slice A1 p2.length c1) rfl) (by kernel_rfl) ?_
          refine Hs.rung0 [11] 300 (fun _ => by kernel_rfl) ?_
          exact Hs.eqM K2 (by kernel_rfl) (by kernel_rfl)
      refine Hs.cond ((p2.length : Int) != (p2.length : Int)) (by kernel_rfl) (fun h => by simp at h) (fun _ => ?_)
      refine Hs.run0 300 (fun _ => by kernel_rfl) ?_
      refine Hs.idx (b := ab) (off := aoff) (len := xs.length) (c := ca) (i := i) elemRp hil (by kernel_rfl) ?_
      refine Hs.run0 300 (fun _ => by kernel_rfl) ?_
      refine Hs.ldc (E' := 49) (b := ab) (off := aoff + i * 2 + 1) (.slice A1 p2.length c1) (by kernel_rfl) (fun w' H => rdX_cell cPG_len (ra.only H.only) h1 (j := 1) (v := .slice A1 p2.length c1) rfl) (by kernel_rfl) ?_
      refine Hs.run0 300 (fun _ => by kernel_rfl) ?_
      refine Hs.loop (by kernel_rfl) ?_
      exact Hs.goto (loopAt Tryz.f15 1) [] [] [(0, .c (.v (.slice (some ⟨ab, aoff, none⟩) xs.length ca))), (1, .c (.v (.slice (some ⟨bb, boff, none⟩) xs.length cb))), (5, .c (.v (.int .i64 i))), (13, .c (.v (.int .i64 xs.length))), (14, .c (.v (.int .i64 i))), (48, .c (.v (.int .i64 p2.length))), (49, .c (.v (.int .i64 (0 : Nat))))] (by kernel_rfl) (by decide) (by kernel_rfl) (by kernel_rfl) (fun _ => (by kernel_rfl)) (fun u => K p2.length 0 (by omega) (by omega) u)
  refine Hs.enter Tryz.func15 [] [] [] [.c (.v (.slice A xs.length ca)), .c (.v (.slice B xs.length cb))] (Mem.start0 w) (by kernel_rfl) (by kernel_rfl) ?_
  refine Hs.run0 300 (fun _ => by kernel_rfl) ?_
  refine Hs.cond ((xs.length : Int) != (xs.length : Int)) (by kernel_rfl) (fun h => by simp at h) (fun _ => ?_)
  refine Hs.run0 300 (fun _ => by kernel_rfl) ?_
  refine Hs.loop (by kernel_rfl) ?_
  exact Hs.goto (loopAt Tryz.f15 0) [] [] [(0, .c (.v (.slice A xs.length ca))), (1, .c (.v (.slice B xs.length cb))), (13, .c (.v (.int .i64 xs.length))), (14, .c (.v (.int .i64 (0 : Nat))))] (by kernel_rfl) (by decide) (by kernel_rfl) (by kernel_rfl) (fun _ => (by kernel_rfl)) (fun u => J xs.length 0 (by omega) (by omega) u)
end Go.Proofs.YtmmcamkmglpgiaaGreatDoor

namespace Go.Proofs.YtmmcamkmglpgiaaGreatDoor
set_option linter.all false
set_option maxRecDepth 100000
open Go.RowKit

section
variable {P : Program} {f : FR} {R : Ending → World → Prop} {n : Nat} {w0 : World} {L : List Nat} {β : List Nat} {m : SM}
variable {α : Type} {cf : α → List Value} {tS E size bytes : Nat}
/-- append([]T{x, ..}, y...) -/
theorem Hs.litN (k : Nat) (ht : ElemT P tS E size bytes) (l gs : List α) (nl ng : Nat) (hl : l.length = nl) (hg : gs.length = ng) {B : Option Addr} {c ty : Nat} {cs : List SC} (hone : ∀ x, ∀ u ∈ cf x, u.oneCell' = true) (hcl : ∀ x, (cf x).length = size)
    (hs : semOf n β m = some (valS (Builtin.append_ #[tS, tS] ty #[.slice (some ⟨nm β k, 0, none⟩) nl nl, .slice B ng c]))) (hk : m.hp[k]? = some (.b true E cs)) (hd : dens β cs = l.flatMap cf) (hrd : (rdOf m).contains k = false)
    (hr : ∀ w, Mem w0 L β m.hp w → RdX cf w B gs) (hlen : nl + ng ≤ maxLen) (hby : (nl + ng) * bytes ≤ 140737488355328)
    (h : ∀ A' cap', nl + ng ≤ cap' → cap' ≤ maxLen → Hs P f R n w0 L β (m.put (dstOf m) (.c (.v (.slice A' (nl + ng) cap'))) (m.hp.set k (.s A' cap' (nl + ng) E size ((l ++ gs).flatMap cf))))) : Hs P f R n w0 L β m := by
  subst hg; subst hl
  refine Hs.opW hs fun w H W => ?_
  have hB : Blk w (nm β k) E (l.flatMap cf) := by
    have := H.lies k _ hk
    rw [← hd]
    exact this
  have hl2 := flatMap_len hcl l
  have hown : OwnX cf E size w 0 (.slice (some ⟨nm β k, 0, none⟩) l.length l.length) l := ⟨hl2, .inr ⟨nm β k, l.length, (l.flatMap cf).toArray, rfl, Nat.zero_le _, hB, Nat.le_refl _, by omega, by simp only [List.size_toArray]; exact hl2, by simp only; rw [← hl2]; exact List.take_length⟩⟩
  obtain ⟨v', w', h1, h2, h3, h4⟩ := run_appX (ty := ty) ht hone hown B c gs (flatMap_len hcl gs) (hr w H) hlen hby (Nat.zero_le _)
  obtain ⟨A', cap', rfl, hc1, hmax, _, hblk⟩ := h2.form
  have hlen2 : (l ++ gs).length = l.length + gs.length := by simp
  have hT := H.toS k rfl hk rfl rfl h3 h2 h4
  rw [hlen2] at h1 hT hc1
  refine ⟨[], .c (.v (.slice A' (l.length + gs.length) cap')), m.hp.set k (.s A' cap' (l.length + gs.length) E size ((l ++ gs).flatMap cf)), w', h1, ?_, ?_, fun i hi b hh => ?_, by rw [List.append_nil]; exact h A' cap' hc1 hmax⟩
  · rw [List.append_nil]
    exact hT
  · simp only [SV.wf, SC.wf, Bool.true_and, Bool.and_eq_true, Nat.ble_eq, List.length_set]
    exact ⟨Nat.le_refl _, set_wf (SM.wf_hp W) rfl⟩
  · rw [List.getElem?_set, if_neg (fun e => by
      subst e
      simp at hrd
      exact hrd hi)]
    exact hh
end
end Go.Proofs.YtmmcamkmglpgiaaGreatDoor

namespace Go.Proofs.YtmmcamkmglpgiaaGreatDoor
set_option linter.all false
set_option maxRecDepth 100000
open Go.RowKit
section
variable {P : Program} {f : FuncId} {R : Ending → World → Prop} {n : Nat} {w0 : World} {L : List Nat} {β : List Nat} {m : SM}
def isI64 : Value → Bool
  | .int .i64 _ => true
  | _ => false
def isBoo : Value → Bool
  | .bool _ => true
  | _ => false
def isBoo? : Option Value → Bool
  | some (.bool _) => true
  | _ => false
theorem isI64_ex {v : Value} (h : isI64 v = true) : ∃ N, v = .int .i64 N := by
  unfold isI64 at h
  split at h
  · exact ⟨_, rfl⟩
  · cases h
theorem isBoo_ex {v : Value} (h : isBoo v = true) : ∃ b, v = .bool b := by
  unfold isBoo at h
  split at h
  · exact ⟨_, rfl⟩
  · cases h
/-- A slot holds some number. -/
theorem Hs.anyI (d : Nat) (h : isI64 ((m.sl.at d).den β) = true) (k : ∀ N : Int, Hs P f R n w0 L β ⟨m.r, m.todo, .put d (.c (.v (.int .i64 N))) m.sl, m.hp⟩) : Hs P f R n w0 L β m := by
  obtain ⟨N, hN⟩ := isI64_ex h
  exact Hs.slot d (.c (.v (.int .i64 N))) rfl hN (k N)
/-- A slot holds some truth value. -/
theorem Hs.anyB (d : Nat) (h : isBoo ((m.sl.at d).den β) = true) (ht : Hs P f R n w0 L β ⟨m.r, m.todo, .put d (.c (.v (.bool true))) m.sl, m.hp⟩) (hf : Hs P f R n w0 L β ⟨m.r, m.todo, .put d (.c (.v (.bool false))) m.sl, m.hp⟩) : Hs P f R n w0 L β m := by
  obtain ⟨b, hb⟩ := isBoo_ex h
  exact Hs.bool d b hb (fun _ => ht) (fun _ => hf)
/-- A condition that may go either way. -/
theorem Hs.condX (h : isBoo? (condOf n β m) = true) (ht : Hs P f R n w0 L β (thenM m)) (hf : Hs P f R n w0 L β (elseM m)) : Hs P f R n w0 L β m := by
  unfold isBoo? at h
  split at h
  · rename_i b hb; exact Hs.cond b hb (fun _ => ht) (fun _ => hf)
  · cases h
end
/-- What is not more than is looked at. -/
structure PgSmall (ps : List PG) : Prop where
  len : ps.length ≤ 61
  ops : ∀ x ∈ ps, x.ops.length ≤ 101
abbrev GrPost (ps : List PG) (w : World) : Ending → World → Prop := fun e w' => ∃ b : Bool, e = .returned (.bool b) ∧ Only [] w w' ∧ (b = false → PgSmall ps)
set_option maxHeartbeats 4000000 in
theorem great19_any (ps : List PG) (A : Option Addr) (c : Nat) (w : World) (h : Pgs w A c ps) : Calls Tryz.prog 7 #[.slice A ps.length c] w (GrPost ps w) := by
  have hlen : ps.length ≤ maxLen := Nat.le_trans h.le h.max
  have J : ∀ (d i : Nat), ps.length - i = d → i ≤ ps.length → i ≤ 61 → (∀ x ∈ ps.take i, x.ops.length ≤ 101) → ∀ (N : Int) (u : Nat → Value), Hs Tryz.prog 7 (GrPost ps w) (Tryz.f7).ntmps w [] [] ⟨.no, loopAt Tryz.f7 0, pins [(3, .c (.v (.int .i64 N))), (8, .c (.v (.slice A ps.length c))), (9, .c (.v (.int .i64 ps.length))), (10, .c (.v (.int .i64 i)))] (.vals u), []⟩ := by
    intro d
    induction d with
    | zero =>
      intro i hd hi hi2 hq N u
      obtain rfl : i = ps.length := by omega
      rw [List.take_length] at hq
      refine Hs.run0 300 (fun _ => by kernel_rfl) ?_
      refine Hs.condP ((ps.length : Int) < (ps.length : Int)) (by kernel_rfl) (fun h => by omega) (fun _ => ?_)
      refine Hs.run0 300 (fun _ => by kernel_rfl) ?_
      exact Hs.ret (v := .bool false) Tryz.func7 (by kernel_rfl) fun w' H => ⟨false, rfl, H.only, fun _ => ⟨hi2, hq⟩⟩
    | succ d ih =>
      intro i hd hi hi2 hq N u
      have hil : i < ps.length := by omega
      obtain ⟨x, hx⟩ : ∃ x, ps[i]? = some x := ⟨_, List.getElem?_eq_getElem hil⟩
      have hxo := h.all x (List.mem_of_getElem? hx)
      obtain ⟨ab, aoff, hA, _, _⟩ := h.rd (by omega)
      have hih := fun h1 h2 N u => ih (i + 1) (by omega) (by omega) h1 h2 N u
      clear ih
      have hrd := h.rd
      rw [hA] at hih hrd ⊢
      have K : ∀ (e j : Nat), x.ops.length - j = e → j ≤ x.ops.length → j ≤ 101 → ∀ (g : Nat) (N : Int) (u : Nat → Value), Hs Tryz.prog 7 (GrPost ps w) (Tryz.f7).ntmps w [] [g] ⟨.no, loopAt Tryz.f7 1, pins [(3, .c (.v (.int .i64 N))), (4, .c (.v (.int .i64 i))), (5, .c (.p 0 0)), (8, .c (.v (.slice (some ⟨ab, aoff, none⟩) ps.length c))), (9, .c (.v (.int .i64 ps.length))), (10, .c (.v (.int .i64 i))), (28, .c (.v (.slice x.A x.ops.length x.c))), (29, .c (.v (.int .i64 x.ops.length))), (30, .c (.v (.int .i64 j)))] (.vals u), [.b true 51 x.sc]⟩ := by
        intro e
        induction e with
        | zero =>
          intro j he hj hj2 g N u
          obtain rfl : j = x.ops.length := by omega
          refine Hs.run0 300 (fun _ => by kernel_rfl) ?_
          refine Hs.condP ((x.ops.length : Int) < (x.ops.length : Int)) (by kernel_rfl) (fun h => by omega) (fun _ => ?_)
          refine Hs.run0 300 (fun _ => by kernel_rfl) ?_
          refine Hs.bool 51 (decide ((i : Int) > 60)) (by kernel_rfl) (fun _ => ?_) (fun h1 => ?_)
          · refine Hs.rung0 [2] 300 (fun _ => by kernel_rfl) ?_
            refine Hs.condT (by kernel_rfl) ?_
            refine Hs.run0 300 (fun _ => by kernel_rfl) ?_
            exact Hs.ret (v := .bool true) Tryz.func7 (by kernel_rfl) fun w' H => ⟨true, rfl, H.only, fun h => by cases h⟩
          replace h1 : i ≤ 60 := by simp at h1; omega
          refine Hs.rung0 [2] 300 (fun _ => by kernel_rfl) ?_
          refine Hs.condX (by kernel_rfl) ?_ ?_
          · refine Hs.run0 300 (fun _ => by kernel_rfl) ?_
            exact Hs.ret (v := .bool true) Tryz.func7 (by kernel_rfl) fun w' H => ⟨true, rfl, H.only, fun h => by cases h⟩
          refine Hs.run0 300 (fun _ => by kernel_rfl) ?_
          refine Hs.slot 10 (.c (.v (.int .i64 (i + 1 : Nat)))) rfl ((by kernel_rfl : _ = Value.int .i64 (IntKind.i64.wrap ((i : Int) + 1))).trans (wrap_nextJ hlen)) ?_
          refine Hs.loop (by kernel_rfl) ?_
          exact Hs.goto (loopAt Tryz.f7 0) [] [] [(3, .c (.v (.int .i64 N))), (8, .c (.v (.slice (some ⟨ab, aoff, none⟩) ps.length c))), (9, .c (.v (.int .i64 ps.length))), (10, .c (.v (.int .i64 (i + 1 : Nat))))] (by kernel_rfl) (by decide) (by kernel_rfl) (by kernel_rfl) (fun _ => (by kernel_rfl)) (fun u => hih (by omega) (fun y hy => by
            rw [List.take_add_one, hx] at hy
            rcases List.mem_append.1 hy with h2 | h2
            · exact hq y h2
            · rw [Option.mem_toList] at h2
              injection h2 with h2
              rw [← h2]; exact hj2) N u)
        | succ e ihk =>
          intro j he hj hj2 g N u
          have hjl : j < x.ops.length := by omega
          obtain ⟨y, hy⟩ : ∃ y, x.ops[j]? = some y := ⟨_, List.getElem?_eq_getElem hjl⟩
          obtain ⟨ob, ooff, hO, _, _⟩ := hxo.1 (by omega)
          have hihk := fun h1 g N u => ihk (j + 1) (by omega) (by omega) h1 g N u
          clear ihk
          have hor := hxo.1
          have hsc : x.sc = [.v (.string x.n), .v (.slice x.A x.ops.length x.c)] := rfl
          rw [hsc] at hihk ⊢
          rw [hO] at hihk hor ⊢
          refine Hs.run0 300 (fun _ => by kernel_rfl) ?_
          refine Hs.condP ((j : Int) < (x.ops.length : Int)) (by kernel_rfl) (fun _ => ?_) (fun h => by omega)
          refine Hs.run0 300 (fun _ => by kernel_rfl) ?_
          refine Hs.idx (b := ob) (off := ooff) (len := x.ops.length) (c := x.c) (i := j) elemRo hjl (by kernel_rfl) ?_
          refine Hs.ldx (cf := cOP) (size := 4) (E := 52) (b := ob) (off := ooff) (i := j) (l := x.ops) (x := y) cOP_len (.g y.sc) (by kernel_rfl) (fun w' H => hor.only H.only) hy (by kernel_rfl) (by kernel_rfl) rfl (by kernel_rfl) ?_
          refine Hs.run1 300 (fun _ => by kernel_rfl) fun b1 => ?_
          refine Hs.anyI 3 (by kernel_rfl) fun N2 => ?_
          refine Hs.bool 44 (decide ((j : Int) > 100)) (by kernel_rfl) (fun _ => ?_) (fun h1 => ?_)
          · refine Hs.rung0 [2] 300 (fun _ => by kernel_rfl) ?_
            refine Hs.condT (by kernel_rfl) ?_
            refine Hs.run0 300 (fun _ => by kernel_rfl) ?_
            exact Hs.ret (v := .bool true) Tryz.func7 (by kernel_rfl) fun w' H => ⟨true, rfl, H.only, fun h => by cases h⟩
          replace h1 : j ≤ 100 := by simp at h1; omega
          refine Hs.rung0 [2] 300 (fun _ => by kernel_rfl) ?_
          refine Hs.condX (by kernel_rfl) ?_ ?_
          · refine Hs.run0 300 (fun _ => by kernel_rfl) ?_
            exact Hs.ret (v := .bool true) Tryz.func7 (by kernel_rfl) fun w' H => ⟨true, rfl, H.only, fun h => by cases h⟩
          refine Hs.run0 300 (fun _ => by kernel_rfl) ?_
          refine Hs.slot 30 (.c (.v (.int .i64 (j + 1 : Nat)))) rfl ((by kernel_rfl : _ = Value.int .i64 (IntKind.i64.wrap ((j : Int) + 1))).trans (wrap_nextJ (Nat.le_trans hxo.2.1 hxo.2.2))) ?_
          refine Hs.loop (by kernel_rfl) ?_
          exact Hs.goto (loopAt Tryz.f7 1) [0] [.b true 51 [.v (.string x.n), .v (.slice (some ⟨ob, ooff, none⟩) x.ops.length x.c)]] [(3, .c (.v (.int .i64 N2))), (4, .c (.v (.int .i64 i))), (5, .c (.p 0 0)), (8, .c (.v (.slice (some ⟨ab, aoff, none⟩) ps.length c))), (9, .c (.v (.int .i64 ps.length))), (10, .c (.v (.int .i64 i))), (28, .c (.v (.slice (some ⟨ob, ooff, none⟩) x.ops.length x.c))), (29, .c (.v (.int .i64 x.ops.length))), (30, .c (.v (.int .i64 (j + 1 : Nat))))] (by kernel_rfl) (by decide) (by kernel_rfl) (by kernel_rfl) (fun _ => (by kernel_rfl)) (fun u => hihk (by omega) g N2 u)
      refine Hs.run0 300 (fun _ => by kernel_rfl) ?_
      refine Hs.condP ((i : Int) < (ps.length : Int)) (by kernel_rfl) (fun _ => ?_) (fun h => by omega)
      refine Hs.run0 300 (fun _ => by kernel_rfl) ?_
      refine Hs.idx (b := ab) (off := aoff) (len := ps.length) (c := c) (i := i) elemRp hil (by kernel_rfl) ?_
      refine Hs.ldx (cf := cPG) (size := 2) (E := 51) (b := ab) (off := aoff) (i := i) (l := ps) (x := x) cPG_len (.g x.sc) (by kernel_rfl) (fun w' H => hrd.only H.only) hx (by kernel_rfl) (by kernel_rfl) rfl (by kernel_rfl) ?_
      refine Hs.run1 300 (fun _ => by kernel_rfl) fun b1 => ?_
      refine Hs.anyI 3 (by kernel_rfl) fun N2 => ?_
      refine Hs.loop (by kernel_rfl) ?_
      exact Hs.goto (loopAt Tryz.f7 1) [0] [.b true 51 x.sc] [(3, .c (.v (.int .i64 N2))), (4, .c (.v (.int .i64 i))), (5, .c (.p 0 0)), (8, .c (.v (.slice (some ⟨ab, aoff, none⟩) ps.length c))), (9, .c (.v (.int .i64 ps.length))), (10, .c (.v (.int .i64 i))), (28, .c (.v (.slice x.A x.ops.length x.c))), (29, .c (.v (.int .i64 x.ops.length))), (30, .c (.v (.int .i64 (0 : Nat))))] (by kernel_rfl) (by decide) (by kernel_rfl) (by kernel_rfl) (fun _ => (by kernel_rfl)) (fun u => K x.ops.length 0 (by omega) (by omega) (by omega) b1 N2 u)
  refine Hs.enter Tryz.func7 [] [] [] [.c (.v (.slice A ps.length c))] (Mem.start0 w) (by kernel_rfl) (by kernel_rfl) ?_
  refine Hs.run0 300 (fun _ => by kernel_rfl) ?_
  refine Hs.loop (by kernel_rfl) ?_
  exact Hs.goto (loopAt Tryz.f7 0) [] [] [(3, .c (.v (.int .i64 0))), (8, .c (.v (.slice A ps.length c))), (9, .c (.v (.int .i64 ps.length))), (10, .c (.v (.int .i64 (0 : Nat))))] (by kernel_rfl) (by decide) (by kernel_rfl) (by kernel_rfl) (fun _ => (by kernel_rfl)) (fun u => J ps.length 0 (by omega) (by omega) (by omega) (by simp) 0 u)
end Go.Proofs.YtmmcamkmglpgiaaGreatDoor

namespace Go.Proofs.YtmmcamkmglpgiaaGreatDoor
set_option linter.all false
set_option maxRecDepth 100000
open Go.RowKit
/-- A statement that ranges over a function, and what stands behind it. -/
structure RF where
  g : Operand
  ps : Array Tmp
  asg : Code
  body : Code
  k : List Item
def rfIn : Code → List Item → Option RF
  | .seq a b, k => match rfIn a (.code b :: k) with
    | some x => some x
    | none => rfIn b k
  | .cond _ x y, k => match rfIn x k with
    | some z => some z
    | none => rfIn y k
  | .block id c, k => rfIn c (.inBlock id :: k)
  | .scope c, k => rfIn c (.inScope c :: k)
  | .loop c, k => rfIn c (.inLoop c :: k)
  | .rangeFunc g ps a b, k => some ⟨g, ps, a, b, k⟩
  | _, _ => none
def rfOf (fn : Func) : RF := match rfIn (codeOf fn) [] with
  | some x => x
  | none => ⟨.tmp 0, #[], .skip, .skip, []⟩
def RF.todo (r : RF) : List Item := .code (.rangeFunc r.g r.ps r.asg r.body) :: r.k
def RF.round (r : RF) : List Item := [.code r.asg, .beginRound, .code r.body]
section
variable {P : Program} {f : FuncId} {R : Ending → World → Prop} {n : Nat} {w0 : World} {L : List Nat} {β : List Nat} {m : SM}
/-- A call of yield, as the iterator meets it. -/
theorem yieldAt_of {l nn rb : Nat} {t : Tmp} {x : Value} {rf : RF} {W : World} (sl : Slots) (hp : List HB) (hds : sl.ds = []) (hps : rf.ps = #[t]) (hl : W.heap[l]? = some (.loop (recL f (fr n β sl).tmps rf.ps rf.asg rf.body rb .ready none))) (ho : (codeOk rf.asg && codeOk rf.body) = true) (H : Mem W L β hp W) (hw : (sl.wf hp.length && hp.all (HB.wf hp.length)) = true)
    (h : Hs P ⟨f, some l⟩ R n W L β ⟨.no, rf.round, .put t (.c (.v x)) sl, hp⟩) : YieldAt Fence.wide nn P l #[x] W R := by
  refine ⟨f, (fr n β (.put t (.c (.v x)) sl)).tmps, rf.asg, rf.body, ?_, ?_⟩
  · rw [run_yield hl (by rw [show (recL f (fr n β sl).tmps rf.ps rf.asg rf.body rb .ready none).params = rf.ps from rfl, hps]; rfl)]
    have e := fr_put n β sl (some t) (.c (.v x))
    have e2 : (fr n β (.put t (.c (.v x)) sl)).tmps = (fr n β sl).tmps.setIfInBounds t x := by
      show (fr n β (putS (some t) (.c (.v x)) sl)).tmps = _
      rw [← e]
      rfl
    rw [e2]
    have e3 : (#[t].zip #[x]) = #[(t, x)] := by simp
    simp only [recL, hps, e3]
    rfl
  · refine round_of (.put t (.c (.v x)) sl) hp ?_ ho H ?_ h
    · show fr n β (.put t (.c (.v x)) sl) = ⟨_, []⟩
      have : (fr n β (.put t (.c (.v x)) sl)).defers = [] := hds
      rw [← this]
    · simp only [Bool.and_eq_true] at hw ⊢
      refine ⟨?_, hw.2⟩
      exact putS_wf (dst := some t) (v := .c (.v x)) hw.1 rfl
end
section
variable {P : Program} {f : FR} {R : Ending → World → Prop} {n : Nat} {w0 : World} {L : List Nat} {β : List Nat} {m : SM} {α : Type} {cf : α → List Value} {size : Nat}
/-- One cell of an element of a row of ours, in a region that draws. -/
theorem Hs.takeLdC (j k : Nat) (hcl : ∀ x, (cf x).length = size) {E E' : Nat} {rd : List Nat} {g i q cap nl : Nat} {l : List α} {x : α} (v : Value) (hs : semAt j n β m = some (valS (Instr.loadAt E' (.pointer (some ⟨g, 0 + i * size + q, none⟩))), rd)) (hk : m.hp[k]? = some (.s (some ⟨g, 0, none⟩) cap nl E size (l.flatMap cf))) (hkr : rd.contains k = true) (hl : l.length = nl) (hx : l[i]? = some x) (hq : (cf x)[q]? = some v) (ha : aggB P E' = some false)
    (h : Hs P f R n w0 L β (takeM j (.c (.v v)) m)) : Hs P f R n w0 L β m :=
  Hs.takeV j (.c (.v v)) hs rfl (fun w hI => by
    have hr : RdX cf w (some ⟨g, 0, none⟩) l := own_rd hl (hI k (by simpa using hkr) _ hk)
    exact run_ldc ha (rdX_cell hcl hr hx hq)) h
end
/-- What is to be done next: a return. -/
def isRet (m : SM) : Bool := match m.r, m.todo with
  | .no, .code .ret :: _ => true
  | _, _ => false
theorem Hs.rRetB {P : Program} {f : FuncId} {R : Ending → World → Prop} {n : Nat} {w0 : World} {L : List Nat} {β : List Nat} {m : SM} {l : Nat} (ht : isRet m = true) (h : ∀ w, Mem w0 L β m.hp w → ∃ r : Loop, w.heap[l]? = some (.loop r) ∧ R (.returned (.bool false)) (w.putObj l (.loop { r with state := .done, pending := some .ret }))) : Hs P ⟨f, some l⟩ R n w0 L β m := by
  unfold isRet at ht
  split at ht
  · rename_i h1 h2
    exact Hs.rRet ⟨h1, h2⟩ h
  · cases ht
theorem Hs.retCB {P : Program} {f : FuncId} {R : Ending → World → Prop} {n : Nat} {w0 : World} {L : List Nat} {β : List Nat} {m : SM} {fn : Func} {v : Value} {r : Nat} (hf : P.funcs[f]? = some fn) (hds : m.sl.ds = [⟨.collected r, #[]⟩]) (ht : isRet m = true) (hr : retOf P fn n β ⟨.no, [], .dfr [] m.sl, m.hp⟩ = some v) (hro : roOk m.hp = true) (hrL : r ∉ L) (hd : w0.heap[r]? = some (.deferred (some [])))
    (h : ∀ w w', Mem w0 L β m.hp w → w' = w.putObj r (.deferred none) → Mem w' (wrN β m.hp) β m.hp w' → R (.returned v) w') : Hs P f R n w0 L β m := by
  unfold isRet at ht
  split at ht
  · rename_i h1 h2
    exact Hs.retC hf hds (.inr ⟨_, h1, h2⟩) hr hro hrL hd h
  · cases ht
end Go.Proofs.YtmmcamkmglpgiaaGreatDoor

namespace Go.Proofs.YtmmcamkmglpgiaaGreatDoor
open Go.RowKit Go.Shelf
set_option linter.all false
set_option maxRecDepth 100000
noncomputable abbrev rfP : RF := rfOf Tryz.f17
def hpP (outs : List PG) (n : Nat) (A : Option Addr) (c : Nat) (cur : PG) (j : Nat) : List HB := [.b true 29 [.v (.slice none 0 0)], .b true 27 [.v (.int .i64 0)], .b true 29 [.v (.slice A n c)], .s A c n 33 2 (outs.flatMap cPG), .s cur.A cur.c j 36 4 (cur.ops.flatMap cOP)]
abbrev btP (b2 b3 b4 : Nat) : List Nat := [b2, b3, b4, 0, 0]
def slP (Bs : Nat) (u : Nat → Value) : Slots := pins [(2, .c (.p 0 0)), (3, .c (.p 1 0)), (4, .c (.p 2 0)), (23, .c (.v (.func (.func 52) #[] #[.pointer (some ⟨Bs, 0, none⟩)])))] (.vals u)
def outsP (done : List PG) (cur : PG) : Bool → List PG
  | true => done ++ [cur]
  | false => []
theorem hpP_ro (outs : List PG) (n : Nat) (A : Option Addr) (c : Nat) (cur : PG) (j : Nat) : roOk (hpP outs n A c cur j) = true := rfl
noncomputable def tmP (b2 b3 b4 Bs : Nat) (u : Nat → Value) : Array Value := (fr (Tryz.f17).ntmps (btP b2 b3 b4) (slP Bs u)).tmps
noncomputable def rcP (b2 b3 b4 Bs : Nat) (u : Nat → Value) (r : Nat) (st : LoopState) (pe : Option Code) : Loop := recL 17 (tmP b2 b3 b4 Bs u) rfP.ps rfP.asg rfP.body r st pe
/-- Where all lies. -/
structure KP where
  b2 : Nat
  b3 : Nat
  b4 : Nat
  Bs : Nat
  l : Nat
  r : Nat
  u : Nat → Value
def KP.bt (k : KP) : List Nat := btP k.b2 k.b3 k.b4
noncomputable def KP.rc (k : KP) (st : LoopState) (pe : Option Code) : Loop := rcP k.b2 k.b3 k.b4 k.Bs k.u k.r st pe
structure KP.ok (k : KP) (wE : World) : Prop where
  lr : k.l ≠ k.r
  Bl : k.Bs ≠ k.l
  Br : k.Bs ≠ k.r
  l : wE.heap.size ≤ k.l
  r : wE.heap.size ≤ k.r
  B : wE.heap.size ≤ k.Bs
/-- The programs so far. -/
structure StP where
  done : List PG
  cur : PG
  has : Bool
  A : Option Addr
  c : Nat
  n : Nat
  j : Nat
def StP.outs (z : StP) : List PG := outsP z.done z.cur z.has
def StP.hp (z : StP) : List HB := hpP z.outs z.n z.A z.c z.cur z.j
structure StP.ok (z : StP) (m : Nat) : Prop where
  n : z.outs.length = z.n
  j : z.cur.ops.length = z.j
  nm : z.n ≤ m
  jm : z.j ≤ m
structure JP (wE : World) (k : KP) (z : StP) (fp : List Nat) (pre : List (List UInt8)) (bs : List Nat) (W : World) : Prop where
  fold : foldP [] pre = some (z.outs.map PG.m)
  ok : z.ok pre.length
  only : Only [] wE W
  hb : bs = wrN k.bt z.hp
  mem : Mem W bs k.bt z.hp W
  st : StX fp (fun w => ∀ x ∈ z.done, PgOk w x)
  dn : ∀ x ∈ z.done, PgOk W x
  hl : W.heap[k.l]? = some (.loop (k.rc .ready none))
  hr : W.heap[k.r]? = some (.deferred (some []))
  far : ∀ x ∈ bs ++ fp, x ≠ k.l ∧ x ≠ k.r ∧ x ≠ k.Bs ∧ wE.heap.size ≤ x ∧ x < W.heap.size
  ap : ∀ x ∈ fp, x ∉ bs
  BW : k.Bs < W.heap.size
def JQ (wE : World) (k : KP) (pre : List (List UInt8)) (bs : List Nat) (W : World) : Prop := ∃ z fp, JP wE k z fp pre bs W
structure JX (wE : World) (k : KP) (s : List UInt8) (W : World) : Prop where
  fold : foldP [] (linesB s) = none
  only : Only [] wE W
  h2 : Blk W k.b2 29 [.slice none 0 0]
  h3 : Blk W k.b3 27 [.int .i64 4]
  ne : k.b2 ≠ k.b3
  n2 : k.b2 ≠ k.r ∧ k.b2 ≠ k.l
  n3 : k.b3 ≠ k.r ∧ k.b3 ≠ k.l
  o2 : wE.heap.size ≤ k.b2
  o3 : wE.heap.size ≤ k.b3
  hl : W.heap[k.l]? = some (.loop (k.rc .done (some .ret)))
  hr : W.heap[k.r]? = some (.deferred (some []))
/-- A round's facts. -/
def QP (k : KP) (fp : List Nat) (W1 : World) (w : World) : Prop := w.heap[k.l]? = some (.loop (k.rc .busy none)) ∧ w.heap[k.r]? = some (.deferred (some [])) ∧ ∀ x ∈ fp, w.heap[x]? = W1.heap[x]?
theorem QP.st {k : KP} {fp : List Nat} {W1 : World} : StX (k.l :: k.r :: fp) (QP k fp W1) := fun w w' hs he h => by
  refine ⟨(he k.l (by simp)).trans h.1, (he k.r (by simp)).trans h.2.1, fun x hx => (he x (by simp [hx])).trans (h.2.2 x hx)⟩
section
variable {wE W1 w4 w : World} {k : KP} {z z' : StP} {fp fp' bs L4 : List Nat} {pre : List (List UInt8)} {x : List UInt8} {s : List UInt8}
abbrev GP (k : KP) (fp bs : List Nat) : List Nat := bs ++ (k.l :: k.r :: fp)
theorem JP.back (J : JP wE k z fp pre bs W1) (K : k.ok wE) (O : Only (GP k fp bs) W1 w) : Only [] wE w := J.only.trans O fun x hx => .inr (by
  simp only [GP, List.mem_append, List.mem_cons] at hx
  rcases hx with h | rfl | rfl | h
  · exact (J.far x (by simp [h])).2.2.2.1
  · exact K.l
  · exact K.r
  · exact (J.far x (by simp [h])).2.2.2.1)
abbrev RdP (wE : World) (k : KP) (s : List UInt8) (pre : List (List UInt8)) (x : List UInt8) (bs : List Nat) (W1 : World) : Ending → World → Prop := fun e W' => (e = .returned (.bool true) ∧ ∃ bs', JQ wE k (pre ++ [x]) bs' W' ∧ Only (k.l :: bs) W1 W' ∧ ∀ y ∈ bs', y ∈ bs ∨ W1.heap.size ≤ y) ∨ (e = .returned (.bool false) ∧ JX wE k s W')
/-- What a round has done to the world. -/
theorem roundO (J : JP wE k z fp pre bs W1) {Q : World → Prop} (C : Fx W1 (GP k fp bs) w4 L4 (k.l :: k.r :: fp') Q) (hQ : ∀ w, Q w → QP k fp W1 w) {β : List Nat} {hp : List HB} (H : Mem w4 L4 β hp w) (o : Obj) : Only (k.l :: bs) W1 (w.putObj k.l o) := by
  have hQ := hQ w (C.at H)
  have O1 := C.fin H
  refine Only.trans ⟨O1.os, O1.tape, O1.output, O1.size, fun i hi hn => ?_⟩ (only_put w k.l o) (fun y hy => .inl (by simp at hy; simp [hy]))
  simp only [List.mem_cons, not_or] at hn
  by_cases h1 : i = k.r
  · subst h1; rw [hQ.2.1, J.hr]
  by_cases h2 : i ∈ fp
  · exact hQ.2.2 i h2
  exact O1.block i hi (by simp only [GP, List.mem_append, List.mem_cons, not_or]; exact ⟨hn.2, hn.1, h1, h2⟩)
/-- The end of a round. -/
theorem endP (K : k.ok wE) (J : JP wE k z fp pre bs W1) (hfold : stepP (z.outs.map PG.m) x = some (z'.outs.map PG.m)) (hok : z'.ok (pre.length + 1))
    (C : Fx W1 (GP k fp bs) w4 L4 (k.l :: k.r :: fp') (fun w => QP k fp W1 w ∧ ∀ y ∈ z'.done, PgOk w y)) (hst : StX fp' (fun w => ∀ y ∈ z'.done, PgOk w y)) (hfp : ∀ y ∈ fp', y ∈ fp ∨ y ∈ bs) (hsub : ∀ y ∈ fp, y ∈ fp') (H : Mem w4 L4 k.bt z'.hp w) :
    ∃ r : Loop, w.heap[k.l]? = some (.loop r) ∧ RdP wE k s pre x bs W1 (.returned (.bool true)) (w.putObj k.l (.loop { r with state := .ready, pending := none })) := by
  have Q := C.at H
  have O1 := C.fin H
  have hlW : k.l < W1.heap.size := (Array.getElem?_eq_some_iff.1 J.hl).1
  have hrW : k.r < W1.heap.size := (Array.getElem?_eq_some_iff.1 J.hr).1
  have hBW : k.Bs < W1.heap.size := J.BW
  have hlw : k.l < w.heap.size := (Array.getElem?_eq_some_iff.1 Q.1.1).1
  have hsz := O1.size
  have hN : ∀ y ∈ wrN k.bt z'.hp, y ∉ k.l :: k.r :: fp' := fun y hy hm => by
    have h1 := (C.key H y hy).1
    have h2 := C.own y hm
    rcases h1 with h | h
    · exact h2.2.1 h
    · omega
  have hfpG : ∀ y ∈ fp', y ≠ k.l ∧ y ≠ k.r ∧ y ≠ k.Bs ∧ wE.heap.size ≤ y ∧ y < W1.heap.size := fun y hy => J.far y (by rcases hfp y hy with h | h <;> simp [h])
  have hbs : ∀ y ∈ wrN k.bt z'.hp, y ∈ bs ∨ W1.heap.size ≤ y := fun y hy => by
    have hny := hN y hy
    simp only [List.mem_cons, not_or] at hny
    rcases (C.key H y hy).2 with h | h
    · simp only [GP, List.mem_append, List.mem_cons] at h
      rcases h with h | h | h | h
      · exact .inl h
      · exact absurd h hny.1
      · exact absurd h hny.2.1
      · exact absurd (hsub y h) hny.2.2
    · exact .inr h
  have hbig : ∀ (y : Nat) (o : Obj), y < w.heap.size → y < (w.putObj k.l o).heap.size := fun y o h => Nat.lt_of_lt_of_le h (only_put w k.l o).size
  have hG : ∀ y ∈ GP k fp bs, wE.heap.size ≤ y := fun y hy => by
    simp only [GP, List.mem_append, List.mem_cons] at hy
    rcases hy with h | h | h | h
    · exact (J.far y (by simp [h])).2.2.2.1
    · subst h; exact K.l
    · subst h; exact K.r
    · exact (J.far y (by simp [h])).2.2.2.1
  have OE : Only [] wE w := J.back K O1
  have hOp := only_put w k.l (.loop { k.rc .busy none with state := .ready, pending := none })
  refine ⟨k.rc .busy none, Q.1.1, .inl ⟨rfl, wrN k.bt z'.hp, ⟨z', fp', ?_⟩, roundO J C (fun w h => h.1) H _, hbs⟩⟩
  have hput : ∀ (y : Nat), y ≠ k.l → (w.putObj k.l (.loop { k.rc .busy none with state := .ready, pending := none })).heap[y]? = w.heap[y]? := fun y hy => World.putObj_heap_other hy
  refine ⟨(foldP_one J.fold).trans hfold, by rw [List.length_append]; exact hok, OE.trans hOp (fun y hy => .inr (by simp at hy; subst hy; exact K.l)), rfl, Mem.rebaseF H hOp (fun i h y h1 h2 hm => ?_), hst, ?_, World.putObj_heap_same hlw, ?_, fun y hy => ?_, fun y hy hm => ?_, ?_⟩
  · simp only [List.mem_singleton] at hm
    subst hm
    exact C.apart H (hpP_ro ..) i h _ h1 h2 (by simp)
  · exact hst w _ hOp.size (fun y hy => hput y (hfpG y hy).1) Q.2
  · rw [hput k.r (Ne.symm K.lr)]; exact Q.1.2.1
  · rcases List.mem_append.1 hy with h | h
    · have hny := hN y h
      simp only [List.mem_cons, not_or] at hny
      have hlt := H.wrN_lt y h
      rcases hbs y h with h2 | h2
      · have := J.far y (by simp [h2])
        exact ⟨hny.1, hny.2.1, this.2.2.1, this.2.2.2.1, hbig _ _ hlt⟩
      · have := J.only.size
        exact ⟨hny.1, hny.2.1, by omega, by omega, hbig _ _ hlt⟩
    · have := hfpG y h
      exact ⟨this.1, this.2.1, this.2.2.1, this.2.2.2.1, hbig _ _ (by omega)⟩
  · exact hN y hm (by simp [hy])
  · exact hbig _ _ (by omega)
/-- A round that returns. -/
theorem failP (K : k.ok wE) (J : JP wE k z fp pre bs W1) (hfold : stepP (z.outs.map PG.m) x = none) {t : List (List UInt8)} (ht : pre ++ x :: t = linesB s)
    {Q : World → Prop} (C : Fx W1 (GP k fp bs) w4 L4 (k.l :: k.r :: fp') Q) (hQ : ∀ w, Q w → QP k fp W1 w) {β : List Nat} {hp : List HB} (H : Mem w4 L4 β hp w) (h2 : Blk w k.b2 29 [.slice none 0 0]) (h3 : Blk w k.b3 27 [.int .i64 4]) :
    ∃ r : Loop, w.heap[k.l]? = some (.loop r) ∧ RdP wE k s pre x bs W1 (.returned (.bool false)) (w.putObj k.l (.loop { r with state := .done, pending := some .ret })) := by
  have Q := hQ w (C.at H)
  have O1 := C.fin H
  have hlw : k.l < w.heap.size := (Array.getElem?_eq_some_iff.1 Q.1).1
  have OE : Only [] wE w := J.back K O1
  have hOp := only_put w k.l (.loop { k.rc .busy none with state := .done, pending := some .ret })
  have m2 : k.b2 ∈ bs := by rw [J.hb]; exact wrN_mem.2 ⟨0, .b true 29 [.v (.slice none 0 0)], k.b2, rfl, rfl, rfl, rfl⟩
  have m3 : k.b3 ∈ bs := by rw [J.hb]; exact wrN_mem.2 ⟨1, .b true 27 [.v (.int .i64 0)], k.b3, rfl, rfl, rfl, rfl⟩
  have f2 := J.far k.b2 (by simp [m2])
  have f3 := J.far k.b3 (by simp [m3])
  have hne : k.b2 ≠ k.b3 := fun e => by
    have := J.mem.inj 0 1 (.b true 29 [.v (.slice none 0 0)]) (.b true 27 [.v (.int .i64 0)]) k.b2 rfl rfl rfl (by show some k.b3 = some k.b2; rw [e])
    cases this
  refine ⟨k.rc .busy none, Q.1, .inr ⟨rfl, ?_⟩⟩
  have hput : ∀ (y : Nat), y ≠ k.l → (w.putObj k.l (.loop { k.rc .busy none with state := .done, pending := some .ret })).heap[y]? = w.heap[y]? := fun y hy => World.putObj_heap_other hy
  exact ⟨by rw [← ht]; exact foldP_bad J.fold hfold, OE.trans hOp (fun y hy => .inr (by simp at hy; subst hy; exact K.l)), (hput _ f2.1).trans h2, (hput _ f3.1).trans h3, hne, ⟨f2.2.1, f2.1⟩, ⟨f3.2.1, f3.1⟩, f2.2.2.2.1, f3.2.2.2.1, World.putObj_heap_same hlw, (hput _ (Ne.symm K.lr)).trans Q.2.1⟩
end
end Go.Proofs.YtmmcamkmglpgiaaGreatDoor

namespace Go.Proofs.YtmmcamkmglpgiaaGreatDoor
open Go.RowKit Go.Shelf
set_option linter.all false
set_option maxRecDepth 100000
theorem pgOk_st (x : PG) : StX (x.A.map (·.block)).toList (fun w => PgOk w x) := fun w w' hs he h => by
  refine ⟨fun h0 => ?_, h.2⟩
  obtain ⟨b, off, e, hlt, hc⟩ := h.1 h0
  refine ⟨b, off, e, Nat.lt_of_lt_of_le hlt hs, fun j u hj => ?_⟩
  exact (World.cell?_of_block (w := w) (he b (by rw [e]; simp))).trans (hc j u hj)
theorem splice_last (done : List PG) (cur : PG) (A : Option Addr) (c : Nat) (o : OP9) (d : Nat) (hd : done.length = d) : splice ((done ++ [cur]).flatMap cPG) (0 + d * 2 + 1) [.slice A (cur.ops.length + 1) c] = (done ++ [(⟨cur.n, A, c, cur.ops ++ [o]⟩ : PG)]).flatMap cPG := by
  subst hd
  have e : (done.flatMap cPG).length = done.length * 2 := by
    induction done with
    | nil => rfl
    | cons a l ih => rw [List.flatMap_cons, List.length_append, ih, cPG_len, List.length_cons]; omega
  have e1 : (done ++ [cur]).flatMap cPG = done.flatMap cPG ++ cPG cur := by simp
  have e2 : (done ++ [(⟨cur.n, A, c, cur.ops ++ [o]⟩ : PG)]).flatMap cPG = done.flatMap cPG ++ cPG ⟨cur.n, A, c, cur.ops ++ [o]⟩ := by simp
  rw [e1, e2]
  unfold splice
  rw [List.take_append, List.drop_append, e]
  have e3 : 0 + done.length * 2 + 1 - done.length * 2 = 1 := by omega
  have e4 : (done.flatMap cPG).take (0 + done.length * 2 + 1) = done.flatMap cPG := List.take_of_length_le (by omega)
  rw [e3, e4]
  have e5 : (done.flatMap cPG).drop (0 + done.length * 2 + 1 + [(.slice A (cur.ops.length + 1) c : Value)].length) = [] := List.drop_of_length_le (by rw [List.length_cons, List.length_nil, e]; omega)
  rw [e5]
  have e6 : 0 + done.length * 2 + 1 + [(.slice A (cur.ops.length + 1) c : Value)].length - done.length * 2 = 2 := by rw [List.length_cons, List.length_nil]; omega
  rw [e6]
  simp [cPG]
theorem wrap_lastP {d : Nat} (h : d < 9223372036854775807) : Value.int .i64 (IntKind.i64.wrap (((d + 1 : Nat) : Int) - 1)) = (SV.c (.v (.int .i64 (d : Nat)))).den [] := by
  rw [IntWalk.i64_in _ (by omega)]
  show Value.int _ _ = Value.int _ _
  congr 1
  omega
theorem trimN_le (x : List UInt8) : (trimN x).length ≤ x.length := by
  unfold trimN Lib.trimSuffix
  split
  · simp
  · exact Nat.le_refl _
theorem roundP {wE W1 : World} {k : KP} {z : StP} {fp bs : List Nat} {pre : List (List UInt8)} {x : List UInt8} {s : List UInt8} (hs : s.length ≤ 262144) (hS : SLib wE) (K : k.ok wE) (J : JP wE k z fp pre bs W1) {t : List (List UInt8)} (ht : pre ++ x :: t = linesB s) :
    YieldAt Fence.wide 0 Tryz.prog k.l #[.string (strL x)] W1 (RdP wE k s pre x bs W1) := by
  have hxl : x.length ≤ 262144 := Nat.le_trans (lines_mem (s := s) (by rw [← ht]; simp)) hs
  have htl : (trimN x).length ≤ 262144 := Nat.le_trans (trimN_le x) hxl
  have hpl : pre.length + 1 ≤ 262144 := by
    have h1 := lines_len s
    rw [← ht] at h1
    simp at h1
    omega
  obtain ⟨b2, b3, b4, Bs, l, r, u⟩ := k
  obtain ⟨done, cur, has, A, c, n, j⟩ := z
  obtain ⟨hn, hj, hnm, hjm⟩ := J.ok
  dsimp only [StP.outs] at hn hj hnm hjm
  have hlbs : l ∉ bs := fun h => (J.far l (by simp [h])).1 rfl
  have hM : Mem W1 bs (btP b2 b3 b4) (hpP (outsP done cur has) n A c cur j) W1 := J.mem
  refine yieldAt_of (t := 24) (rf := rfP) (L := bs) (β := btP b2 b3 b4) (slP Bs u) (hpP (outsP done cur has) n A c cur j) rfl (by kernel_rfl) J.hl (by kernel_rfl) hM (by kernel_rfl) ?_
  refine Hs.run0 300 (fun _ => by kernel_rfl) ?_
  refine Hs.rBegin (r := rcP b2 b3 b4 Bs u r .ready none) (k := [.code rfP.body]) ⟨(by kernel_rfl), (by kernel_rfl)⟩ (by kernel_rfl) J.hl rfl hlbs fun w2 w3 H2 e3 h3 => ?_
  subst e3
  have hlW : l < W1.heap.size := (Array.getElem?_eq_some_iff.1 J.hl).1
  have hrW : r < W1.heap.size := (Array.getElem?_eq_some_iff.1 J.hr).1
  have hO2 := H2.only
  have hOp := only_put w2 l (.loop (rcP b2 b3 b4 Bs u r .busy none))
  have hbs : wrN (btP b2 b3 b4) (hpP (outsP done cur has) n A c cur j) = bs := J.hb.symm
  have hrbs : r ∉ bs := fun h => (J.far r (by simp [h])).2.1 rfl
  have hb2 : ∀ y, y < W1.heap.size → y ∉ bs → y ≠ l → (w2.putObj l (.loop (rcP b2 b3 b4 Bs u r .busy none))).heap[y]? = W1.heap[y]? := fun y h1 h2 h3 => (World.putObj_heap_other h3).trans (hO2.block y h1 h2)
  have C1 : Fx W1 (GP ⟨b2, b3, b4, Bs, l, r, u⟩ fp bs) (w2.putObj l (.loop (rcP b2 b3 b4 Bs u r .busy none))) (wrN (btP b2 b3 b4) (hpP (outsP done cur has) n A c cur j)) (l :: r :: fp) (QP ⟨b2, b3, b4, Bs, l, r, u⟩ fp W1) := by
    refine ⟨?_, fun y hy => .inl ?_, ⟨h3, ?_, fun y hy => ?_⟩, fun y hy => ⟨?_, ?_, .inl ?_⟩, QP.st (k := ⟨b2, b3, b4, Bs, l, r, u⟩)⟩
    · refine Only.trans (L' := [l]) ⟨hO2.os, hO2.tape, hO2.output, hO2.size, fun i hi hn => hO2.block i hi fun hm => hn ?_⟩ hOp fun y hy => .inl ?_
      · simp [hm]
      · simp only [List.mem_singleton] at hy; subst hy; simp
    · rw [hbs] at hy; simp [hy]
    · exact (hb2 r hrW hrbs (Ne.symm K.lr)).trans J.hr
    · exact hb2 y (J.far y (by simp [hy])).2.2.2.2 (J.ap y hy) (J.far y (by simp [hy])).1
    · refine Nat.lt_of_lt_of_le ?_ (Nat.le_trans hO2.size hOp.size)
      simp only [List.mem_cons] at hy
      rcases hy with h | h | h
      · subst h; exact hlW
      · subst h; exact hrW
      · exact (J.far y (by simp [h])).2.2.2.2
    · rw [hbs]
      simp only [List.mem_cons] at hy
      rcases hy with h | h | h
      · subst h; exact hlbs
      · subst h; exact hrbs
      · exact J.ap y h
    · simp only [List.mem_append, List.mem_cons]
      simp only [List.mem_cons] at hy
      exact .inr hy
  have hS1 : ∀ {w : World} {β : List Nat} {hp : List HB}, Mem (w2.putObj l (.loop (rcP b2 b3 b4 Bs u r .busy none))) (wrN (btP b2 b3 b4) (hpP (outsP done cur has) n A c cur j)) β hp w → SLib w := fun H => hS.only (J.back K (C1.fin H))
  have hok2 := J.ok
  clear hOp hb2 hlW hrW H2 hO2 hrbs hlbs
  refine Hs.run0 300 (fun _ => by kernel_rfl) ?_
  refine Hs.callV (v := .string (strL (trimN x))) (fun w' H => trimN_any x (by omega) w') (by kernel_rfl) ?_
  refine Hs.run0 300 (fun _ => by kernel_rfl) ?_
  refine Hs.callV (v := .tuple #[.string (strL (behind (trimN x))), .bool (isHead (trimN x))]) (fun w' H => cutP_any _ w') (by kernel_rfl) ?_
  refine Hs.run0 300 (fun _ => by kernel_rfl) ?_
  refine Hs.cond (isHead (trimN x)) (by kernel_rfl) (fun h => ?_) (fun h => ?_)
  · refine Hs.run0 300 (fun _ => by kernel_rfl) ?_
    refine Hs.callV (v := .bool (badName (behind (trimN x)))) (fun w' H => contains_any _ w') (by kernel_rfl) ?_
    refine Hs.run0 300 (fun _ => by kernel_rfl) ?_
    refine Hs.cond (badName (behind (trimN x))) (by kernel_rfl) (fun h2 => ?_) (fun h2 => ?_)
    · refine Hs.run0 300 (fun _ => by kernel_rfl) ?_
      refine Hs.rRetB (by kernel_rfl) fun w H => ?_
      have e : stepP ((outsP done cur has).map PG.m) x = none := by unfold stepP stepX; rw [h, h2]
      exact failP K J e ht C1 (fun w h => h) H (Mem.at (wr := true) (T := 29) (cs := [.v (.slice none 0 0)]) H 0 (by kernel_rfl)) (Mem.at (wr := true) (T := 27) (cs := [.v (.int .i64 4)]) H 1 (by kernel_rfl))
    · have e : stepP ((outsP done cur has).map PG.m) x = some ((outsP done cur has).map PG.m ++ [(strL (behind (trimN x)), [])]) := by unfold stepP stepX; rw [h, h2]
      refine Hs.run1 300 (fun _ => by kernel_rfl) fun b5 => ?_
      refine Hs.app (cf := cPG) (c := 1) (ty := 29) 3 elemPr (outsP done cur has) [(⟨strL (behind (trimN x)), none, 0, []⟩ : PG)] n 1 hn rfl cPG_one cPG_len (A := A) (B := some ⟨b5, 0, none⟩) (cap := c) (by kernel_rfl) (by kernel_rfl) (by kernel_rfl) (fun w' H => H.rdB (cf := cPG) (wr := true) (T := 33) (cs := [.v (.string (strL (behind (trimN x)))), .v (.slice none 0 0)]) (gs := [(⟨strL (behind (trimN x)), none, 0, []⟩ : PG)]) 5 (by kernel_rfl) rfl) (by unfold maxLen; omega) (by rw [elemPr_by]; omega) fun A6 c6 h6 => ?_
      refine Hs.run0 300 (fun _ => by kernel_rfl) ?_
      have hst : StX ((cur.A.map (·.block)).toList ++ fp) (fun w => ∀ y ∈ outsP done cur has, PgOk w y) := by
        intro w w' h1 h2 h3 y hy
        cases has with
        | false => cases hy
        | true =>
          rcases List.mem_append.1 hy with h4 | h4
          · exact J.st w w' h1 (fun q hq => h2 q (by simp [hq])) (fun y hy => h3 y (List.mem_append.2 (.inl hy))) y h4
          · obtain rfl := List.mem_singleton.1 h4
            exact pgOk_st y w w' h1 (fun q hq => h2 q (List.mem_append.2 (.inl hq))) (h3 y hy)
      have hfpc : ∀ y ∈ (cur.A.map (·.block)).toList, cur.A.map (·.block) = some y := fun y hy => Option.mem_toList.1 hy
      refine Hs.shutFx [4] ((cur.A.map (·.block)).toList) (fun w => PgOk w cur) C1 (pgOk_st cur) (fun w H => ?_) (fun y hy => ⟨4, by simp, .s cur.A cur.c j 36 4 (cur.ops.flatMap cOP), (by kernel_rfl), rfl, hfpc y hy⟩) (by kernel_rfl) fun w4 L4 C2 MV => ?_
      · have h1 := Mem.rdX (cf := cOP) (E := 36) (size := 4) (A := cur.A) (cap := cur.c) H 4 hj (by kernel_rfl)
        have h2 := Mem.capS (cf := cOP) (E := 36) (size := 4) (A := cur.A) (cap := cur.c) H 4 hj (by kernel_rfl)
        exact ⟨h1, by rw [hj]; exact h2.1, h2.2⟩
      have C3 := C2.two (MV _ _ C1 (by simp))
      have C5 : Fx W1 (GP ⟨b2, b3, b4, Bs, l, r, u⟩ fp bs) w4 L4 (l :: r :: ((cur.A.map (·.block)).toList ++ fp)) (fun w => QP ⟨b2, b3, b4, Bs, l, r, u⟩ fp W1 w ∧ ∀ y ∈ outsP done cur has, PgOk w y) := by
        refine C3.sub (fun y hy => ?_) (fun h => ⟨h.2, ?_⟩) ?_
        · simp only [List.mem_cons, List.mem_append] at hy ⊢
          rcases hy with h | h | h | h
          · exact .inr (.inl h)
          · exact .inr (.inr (.inl h))
          · exact .inl h
          · exact .inr (.inr (.inr h))
        · intro y hy
          cases has with
          | false => cases hy
          | true =>
            rcases List.mem_append.1 hy with h4 | h4
            · exact J.st W1 w4 C3.only.size h.2.2.2 J.dn y h4
            · obtain rfl := List.mem_singleton.1 h4
              exact h.1
        · intro w w' h1 h2 h3
          exact ⟨QP.st (k := ⟨b2, b3, b4, Bs, l, r, u⟩) w w' h1 (fun q hq => h2 q (by simp only [List.mem_cons, List.mem_append] at hq ⊢; rcases hq with h | h | h <;> simp [h])) h3.1, hst w w' h1 (fun q hq => h2 q (by simp only [List.mem_cons]; exact .inr (.inr hq))) h3.2⟩
      clear C1 C2 C3 MV hS1
      refine Hs.nilS 36 4 (by kernel_rfl) ?_ (by kernel_rfl)
      refine Hs.goto [] [0, 1, 2, 3, 6] (StP.hp ⟨outsP done cur has, ⟨strL (behind (trimN x)), none, 0, []⟩, true, A6, c6, n + 1, 0⟩) [] (by kernel_rfl) (by decide) (by kernel_rfl) (by kernel_rfl) (fun _ => (by kernel_rfl)) (fun u2 => ?_)
      refine Hs.rEnd ⟨rfl, rfl⟩ fun w H => ?_
      refine endP (z' := ⟨outsP done cur has, ⟨strL (behind (trimN x)), none, 0, []⟩, true, A6, c6, n + 1, 0⟩) K J (e.trans ?_) ⟨?_, rfl, ?_, Nat.zero_le _⟩ C5 hst (fun y hy => ?_) (fun y hy => List.mem_append.2 (.inr hy)) H
      · show _ = some ((outsP done cur has ++ [_]).map PG.m)
        rw [List.map_append]
        rfl
      · show (outsP done cur has ++ [_]).length = n + 1
        rw [List.length_append, hn]
        rfl
      · show n + 1 ≤ pre.length + 1
        omega
      · rcases List.mem_append.1 hy with h4 | h4
        · refine .inr ?_
          rw [J.hb]
          exact wrN_mem.2 ⟨4, .s cur.A cur.c j 36 4 (cur.ops.flatMap cOP), 0, rfl, rfl, rfl, hfpc y h4⟩
        · exact .inl h4
  · refine Hs.run0 300 (fun _ => by kernel_rfl) ?_
    rcases hop : opB (trimN x) with ⟨o, ok⟩
    have hopC : ∀ w', SLib w' → Calls Tryz.prog 37 #[.string (strL (trimN x))] w' (fun e w2 => e = .returned (opV (o, ok)) ∧ Only [] w' w2) := by
      intro w' hS
      have := op_any19 (trimN x) (by omega) w' hS
      rwa [hop] at this
    refine Hs.callV (v := opV (o, ok)) (fun w' H => hopC w' (hS1 H)) (by kernel_rfl) ?_
    clear hopC hS1
    cases ok with
    | false =>
      have e : stepP ((outsP done cur has).map PG.m) x = none := by unfold stepP stepX; rw [h, hop]
      refine Hs.run1 300 (fun _ => by kernel_rfl) fun b5 => ?_
      refine Hs.rung0 [2] 300 (fun _ => by kernel_rfl) ?_
      refine Hs.condT (by kernel_rfl) ?_
      refine Hs.run0 300 (fun _ => by kernel_rfl) ?_
      refine Hs.rRetB (by kernel_rfl) fun w H => ?_
      exact failP K J e ht C1 (fun w h => h) H (Mem.at (wr := true) (T := 29) (cs := [.v (.slice none 0 0)]) H 0 (by kernel_rfl)) (Mem.at (wr := true) (T := 27) (cs := [.v (.int .i64 4)]) H 1 (by kernel_rfl))
    | true =>
      cases has with
      | false =>
        obtain rfl : n = 0 := hn.symm
        have e : stepP ((outsP done cur false).map PG.m) x = none := by unfold stepP stepX; rw [h, hop]; rfl
        refine Hs.run1 300 (fun _ => by kernel_rfl) fun b5 => ?_
        refine Hs.rung0 [2] 300 (fun _ => by kernel_rfl) ?_
        refine Hs.condT (by kernel_rfl) ?_
        refine Hs.run0 300 (fun _ => by kernel_rfl) ?_
        refine Hs.rRetB (by kernel_rfl) fun w H => ?_
        exact failP K J e ht C1 (fun w h => h) H (Mem.at (wr := true) (T := 29) (cs := [.v (.slice none 0 0)]) H 0 (by kernel_rfl)) (Mem.at (wr := true) (T := 27) (cs := [.v (.int .i64 4)]) H 1 (by kernel_rfl))
      | true =>
        have hn2 : done.length + 1 = n := by rw [← hn]; simp [outsP]
        subst hn2
        subst hj
        have e : stepP ((outsP done cur true).map PG.m) x = some (done.map PG.m ++ [(cur.n, cur.ops ++ [o])]) := by
          unfold stepP stepX
          rw [h, hop]
          show addOp o ((done ++ [cur]).map PG.m) = _
          rw [List.map_append]
          exact addOp_app o (PG.m cur) (done.map PG.m)
        have hfl : ((done ++ [cur]).flatMap cPG).length = (done.length + 1) * 2 := by
          rw [show (done.length + 1) = (done ++ [cur]).length by simp]
          generalize done ++ [cur] = q
          induction q with
          | nil => rfl
          | cons a l ih => rw [List.flatMap_cons, List.length_append, ih, cPG_len, List.length_cons]; omega
        refine Hs.run1 300 (fun _ => by kernel_rfl) fun b5 => ?_
        refine Hs.rung0 [2] 300 (fun _ => by kernel_rfl) ?_
        refine Hs.cond (decide (((done.length + 1 : Nat) : Int) = 0)) (by kernel_rfl) (fun h => by have := of_decide_eq_true h; omega) (fun _ => ?_)
        refine Hs.run0 300 (fun _ => by kernel_rfl) ?_
        refine Hs.someS (E := 33) (size := 2) (A := A) (cap := c) (nl := done.length + 1) (vs := (done ++ [cur]).flatMap cPG) 3 (by kernel_rfl) (by omega) fun g hg => ?_
        subst hg
        refine Hs.slot 55 (.c (.v (.int .i64 (done.length : Nat)))) rfl ((by kernel_rfl : _ = Value.int .i64 (IntKind.i64.wrap (((done.length + 1 : Nat) : Int) - 1))).trans (wrap_lastP (by omega))) ?_
        refine Hs.idx (b := g) (off := 0) (len := done.length + 1) (c := c) (i := done.length) elemPr (by omega) (by kernel_rfl) ?_
        refine Hs.run0 300 (fun _ => by kernel_rfl) ?_
        refine Hs.any [3, 5, 1010] (by kernel_rfl) ?_
        refine Hs.run0 300 (fun _ => by kernel_rfl) ?_
        refine Hs.takeLdC (rd := [3, 5]) 4 3 cPG_len (E := 33) (E' := 31) (g := g) (i := done.length) (q := 1) (cap := c) (nl := done.length + 1) (l := done ++ [cur]) (x := cur) (.slice cur.A cur.ops.length cur.c) (by kernel_rfl) (by kernel_rfl) (by kernel_rfl) hn (by simp) rfl (by kernel_rfl) ?_
        refine Hs.run1 300 (fun _ => by kernel_rfl) fun b6 => ?_
        refine Hs.app (cf := cOP) (c := 1) (ty := 31) 4 elemPo cur.ops [o] cur.ops.length 1 rfl rfl cOP_one cOP_len (A := cur.A) (B := some ⟨b6, 0, none⟩) (cap := cur.c) (by kernel_rfl) (by kernel_rfl) (by kernel_rfl) (fun w' H => H.rdB (cf := cOP) (wr := true) (T := 36) (cs := o.sc) (gs := [o]) 6 (by kernel_rfl) rfl) (by unfold maxLen; omega) (by rw [elemPo_by]; omega) fun A7 c7 h7 => ?_
        refine Hs.run0 300 (fun _ => by kernel_rfl) ?_
        refine Hs.stc 3 (E := 33) (size := 2) (g := g) (cap := c) (nl := done.length + 1) (vs := (done ++ [cur]).flatMap cPG) (by kernel_rfl) (0 + done.length * 2 + 1) (by omega) (v := .slice A7 (cur.ops.length + 1) c7) rfl rfl (E' := 31) (by kernel_rfl) (by kernel_rfl) (by kernel_rfl) ?_
        rw [splice_last done cur A7 c7 o done.length rfl]
        refine Hs.run0 300 (fun _ => by kernel_rfl) ?_
        refine Hs.goto [] [0, 1, 2, 3, 4] (StP.hp ⟨done, ⟨cur.n, A7, c7, cur.ops ++ [o]⟩, true, some ⟨g, 0, none⟩, c, done.length + 1, cur.ops.length + 1⟩) [] (by kernel_rfl) (by decide) (by kernel_rfl) (by kernel_rfl) (fun _ => (by kernel_rfl)) (fun u2 => ?_)
        refine Hs.rEnd ⟨rfl, rfl⟩ fun w H => ?_
        refine endP (z' := ⟨done, ⟨cur.n, A7, c7, cur.ops ++ [o]⟩, true, some ⟨g, 0, none⟩, c, done.length + 1, cur.ops.length + 1⟩) (fp' := fp) K J (e.trans ?_) ⟨?_, ?_, ?_, ?_⟩ (C1.imp (fun h => ⟨h, J.st W1 _ C1.only.size h.2.2 J.dn⟩) ?_) J.st (fun y hy => .inl hy) (fun y hy => hy) H
        · show _ = some ((done ++ [_]).map PG.m)
          rw [List.map_append]
          rfl
        · show (done ++ [_]).length = done.length + 1
          rw [List.length_append]
          rfl
        · show (cur.ops ++ [o]).length = cur.ops.length + 1
          rw [List.length_append]
          rfl
        · show done.length + 1 ≤ pre.length + 1
          omega
        · show cur.ops.length + 1 ≤ pre.length + 1
          omega
        · intro w w' h1 h2 h3
          exact ⟨QP.st (k := ⟨b2, b3, b4, Bs, l, r, u⟩) w w' h1 h2 h3.1, J.st w w' h1 (fun q hq => h2 q (by simp [hq])) h3.2⟩
end Go.Proofs.YtmmcamkmglpgiaaGreatDoor
