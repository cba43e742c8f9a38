/- Layer 1: the laws of what Write answers: of fields, and of fields in two parts · Layer 1: the laws of cutting at commas and joining, of numbers in four bytes · Layer 1: what is read is written as it came; what is written is read as it was: the laws, no program in sight · Bounds; no condition · Layer 1: what is read, as its kinds say; numbers and texts in range; no condition · Layer 4: requests, their parts, what is asked of them; plain laws; no condition · Layer 8: settings: whether a flag is on, what a character is, a flag set; for all settings; no condition · Layer 27: how a client is told of an end; for all numbers; no condition · Layers 19, 27: a program found by its name; variables in new memory; for all programs and variables; no condition but their number · The machine: in a drawn region, operations under guards that are met, taken wherever they come; over any program; no condition · The machine: memory that is handed in, as a fact that a drawn region may use; over any program; no condition · The machine: a call that makes a block; over any program; no condition · The machine: a literal without elements is a row of ours; over any program; no condition · The machine: a call that makes a block, in a region that draws; the rest of a division; over any program; no condition. -/
import Derived.Test.YtdplnedpbkpgpaaGreatDoorOctR
import Derived.Lib.SplitLaws
import Derived.Test.YtdplnedpbkpgpaaGreatDoorKit
import Derived.Test.YtdplnedpbkpgpaaGreatDoorEngQ
import Derived.Laws.Concat
import Derived.Test.YtdplnedpbkpgpaaGreatDoorSesB
import Derived.Test.YtdplnedpbkpgpaaGreatDoorEngN
import Derived.Test.YtdplnedpbkpgpaaGreatDoorU8
import Derived.Test.YtdplnedpbkpgpaaGreatDoorEngAC
namespace Go.Proofs.YtdplnedpbkpgpaaGreatDoor
set_option linter.all false
open Go.RowKit

/-- Fields that can be written. -/
def OkP (ps : List PF) : Prop := rowOk (ps.map (·.kind)) = true ∧ (∀ p ∈ ps, faultP p = 0) ∧ (ps.flatMap bytesP).length ≤ 33792
theorem writeFrom_ok : ∀ (ps : List PF) (acc : List Int), (∀ p ∈ ps, faultP p = 0) → (acc ++ ps.flatMap bytesP).length ≤ 33792 → writeFrom ps acc = (0, acc ++ ps.flatMap bytesP)
  | [], acc, _, _ => by simp [writeFrom]
  | p :: ps, acc, h1, h2 => by
    have e := h1 p (by simp)
    rw [List.flatMap_cons, ← List.append_assoc] at h2 ⊢
    have h3 : ¬ 33792 < (acc ++ bytesP p).length := by
      rw [List.length_append] at h2
      omega
    unfold writeFrom
    rw [if_neg (by simp [e]), if_neg h3]
    exact writeFrom_ok ps _ (fun q hq => h1 q (by simp [hq])) h2
theorem writeFrom_bad : ∀ (ps : List PF) (acc : List Int), ¬ ((∀ p ∈ ps, faultP p = 0) ∧ (acc ++ ps.flatMap bytesP).length ≤ 33792) → acc.length ≤ 33792 → ∃ e, e ≠ 0 ∧ writeFrom ps acc = (e, [])
  | [], acc, h, ha => by
    refine absurd ⟨fun p hp => by simp at hp, ?_⟩ h
    simpa using ha
  | p :: ps, acc, h, ha => by
    unfold writeFrom
    by_cases e : faultP p = 0
    · rw [if_neg (by simp [e])]
      by_cases h3 : 33792 < (acc ++ bytesP p).length
      · rw [if_pos h3]
        exact ⟨6, by decide, rfl⟩
      · rw [if_neg h3]
        refine writeFrom_bad ps _ (fun ⟨h4, h5⟩ => h ⟨fun q hq => ?_, ?_⟩) (by omega)
        · rcases List.mem_cons.1 hq with rfl | hq
          · exact e
          · exact h4 q hq
        · rw [List.flatMap_cons, ← List.append_assoc]
          exact h5
    · rw [if_pos e]
      exact ⟨_, e, rfl⟩
theorem writeP_ok {ps : List PF} (h : OkP ps) : writeP ps = (0, ps.flatMap bytesP) := by
  unfold writeP
  rw [if_pos h.1]
  have := writeFrom_ok ps [] h.2.1 (by simpa using h.2.2)
  simpa using this
theorem writeP_bad {ps : List PF} (h : ¬ OkP ps) : ∃ e, e ≠ 0 ∧ writeP ps = (e, []) := by
  unfold writeP
  by_cases hr : rowOk (ps.map (·.kind)) = true
  · rw [if_pos hr]
    exact writeFrom_bad ps [] (fun ⟨h1, h2⟩ => h ⟨hr, h1, by simpa using h2⟩) (by simp)
  · rw [if_neg hr]
    exact ⟨2, by decide, rfl⟩
theorem writeP_len {ps : List PF} : (writeP ps).2.length ≤ 33792 := by
  by_cases h : OkP ps
  · rw [writeP_ok h]; exact h.2.2
  · obtain ⟨e, _, h2⟩ := writeP_bad h
    rw [h2]; simp
theorem goodAt_take {ks : List Int} {k i : Nat} (hi : i < k) (h : goodAt ks i = true) : goodAt (ks.take k) i = true := by
  have e : (ks.take k).getD i 0 = ks.getD i 0 := by
    simp only [List.getD_eq_getElem?_getD, List.getElem?_take, hi, if_true]
  unfold goodAt at h ⊢
  rw [e]
  simp only [Bool.and_eq_true, Bool.not_eq_true', Bool.and_eq_false_iff, decide_eq_false_iff_not] at h ⊢
  refine ⟨h.1, ?_⟩
  rcases h.2 with h2 | h2
  · exact .inl h2
  · right
    rw [List.length_take]
    omega
theorem goodAt_drop {ks : List Int} {k i : Nat} : goodAt (ks.drop k) i = goodAt ks (k + i) := by
  unfold goodAt
  have e : (ks.drop k).getD i 0 = ks.getD (k + i) 0 := by simp [List.getD_eq_getElem?_getD, List.getElem?_drop]
  have e2 : decide (i + 1 < (ks.drop k).length) = decide (k + i + 1 < ks.length) := by
    rw [List.length_drop]
    simp only [decide_eq_decide]
    omega
  rw [e, e2]
theorem rowOk_take {ks : List Int} (k : Nat) (h : rowOk ks = true) : rowOk (ks.take k) = true := by
  rw [rowOk_iff] at h ⊢
  intro i hi
  rw [List.length_take] at hi
  exact goodAt_take (by omega) (h i (by omega))
theorem rowOk_drop {ks : List Int} (k : Nat) (h : rowOk ks = true) : rowOk (ks.drop k) = true := by
  rw [rowOk_iff] at h ⊢
  intro i hi
  rw [List.length_drop] at hi
  rw [goodAt_drop]
  exact h (k + i) (by omega)
theorem rowOk_join {ks : List Int} {k : Nat} (hk : k ≤ ks.length) (h1 : rowOk (ks.take k) = true) (h2 : rowOk (ks.drop k) = true) (h3 : ¬ (0 < k ∧ ks.getD (k - 1) 0 = 6)) : rowOk ks = true := by
  rw [rowOk_iff] at h1 h2 ⊢
  intro i hi
  by_cases hik : i < k
  · have g := h1 i (by rw [List.length_take]; omega)
    have e : (ks.take k).getD i 0 = ks.getD i 0 := by
      simp only [List.getD_eq_getElem?_getD, List.getElem?_take, hik, if_true]
    unfold goodAt at g ⊢
    rw [e] at g
    simp only [Bool.and_eq_true, Bool.not_eq_true', Bool.and_eq_false_iff, decide_eq_false_iff_not] at g ⊢
    refine ⟨g.1, ?_⟩
    rcases g.2 with g2 | g2
    · exact .inl g2
    · left
      intro h6
      rw [List.length_take] at g2
      have : i = k - 1 := by omega
      rw [this] at h6
      exact h3 ⟨by omega, h6⟩
  · have := h2 (i - k) (by rw [List.length_drop]; omega)
    rw [goodAt_drop] at this
    rw [show k + (i - k) = i by omega] at this
    exact this

/-- What is written in two parts is what is written at once. -/
theorem joins_law (ps : List PF) (k : Nat) (hk : k ≤ ps.length) :
    if (writeP ps).1 = 0 then (writeP (ps.take k)).1 = 0 ∧ (writeP (ps.drop k)).1 = 0 ∧ (writeP ps).2 = (writeP (ps.take k)).2 ++ (writeP (ps.drop k)).2
    else (writeP (ps.take k)).1 ≠ 0 ∨ (writeP (ps.drop k)).1 ≠ 0 ∨ 33792 < (writeP (ps.take k)).2.length + (writeP (ps.drop k)).2.length ∨ (0 < k ∧ (ps.map (·.kind)).getD (k - 1) 0 = 6) := by
  have hf : ps.flatMap bytesP = (ps.take k).flatMap bytesP ++ (ps.drop k).flatMap bytesP := by
    rw [← List.flatMap_append, List.take_append_drop]
  have ha : ∀ p ∈ ps, p ∈ ps.take k ∨ p ∈ ps.drop k := fun p hp => by
    rw [← List.mem_append, List.take_append_drop]
    exact hp
  by_cases h : OkP ps
  · have h1 : OkP (ps.take k) := ⟨by rw [List.map_take]; exact rowOk_take k h.1, fun p hp => h.2.1 p (List.mem_of_mem_take hp), by have := h.2.2; rw [hf, List.length_append] at this; omega⟩
    have h2 : OkP (ps.drop k) := ⟨by rw [List.map_drop]; exact rowOk_drop k h.1, fun p hp => h.2.1 p (List.mem_of_mem_drop hp), by have := h.2.2; rw [hf, List.length_append] at this; omega⟩
    rw [writeP_ok h, writeP_ok h1, writeP_ok h2]
    exact ⟨rfl, rfl, hf⟩
  · obtain ⟨e, he, h0⟩ := writeP_bad h
    rw [h0]
    dsimp only
    rw [if_neg he]
    by_cases h1 : OkP (ps.take k)
    · by_cases h2 : OkP (ps.drop k)
      · right; right
        by_cases h3 : 0 < k ∧ (ps.map (·.kind)).getD (k - 1) 0 = 6
        · exact .inr h3
        · left
          rw [writeP_ok h1, writeP_ok h2]
          dsimp only
          have hr := rowOk_join (ks := ps.map (·.kind)) (k := k) (by rw [List.length_map]; exact hk) (by rw [← List.map_take]; exact h1.1) (by rw [← List.map_drop]; exact h2.1) h3
          have hn : ¬ (ps.flatMap bytesP).length ≤ 33792 := fun h4 => h ⟨hr, fun p hp => (ha p hp).elim (h1.2.1 p) (h2.2.1 p), h4⟩
          rw [hf, List.length_append] at hn
          omega
      · obtain ⟨e2, he2, h4⟩ := writeP_bad h2
        rw [h4]
        exact .inr (.inl he2)
    · obtain ⟨e2, he2, h4⟩ := writeP_bad h1
      rw [h4]
      exact .inl he2
end Go.Proofs.YtdplnedpbkpgpaaGreatDoor

namespace Go.Proofs.YtdplnedpbkpgpaaGreatDoor
set_option linter.all false
open Go.RowKit

/-- A text cut at its commas. -/
def cutL : List UInt8 → List (List UInt8)
  | [] => [[]]
  | c :: s => if c = 44 then [] :: cutL s else (c :: (cutL s).headD []) :: (cutL s).tail
theorem cutL_ne (s : List UInt8) : ∃ h t, cutL s = h :: t := by
  cases s with
  | nil => exact ⟨[], [], rfl⟩
  | cons c s =>
    unfold cutL
    split
    · exact ⟨_, _, rfl⟩
    · exact ⟨_, _, rfl⟩
theorem idx_cons (c : UInt8) (l : List UInt8) (h : c ≠ 44) : Lib.index (c :: l) [44] = if Lib.index l [44] == -1 then -1 else Lib.index l [44] + 1 := by
  have hp : ([44] : List UInt8).isPrefixOf (c :: l) = false := by simp [List.isPrefixOf, Ne.symm h]
  rw [Lib.index, hp]; simp
theorem splitK_cut : ∀ s : List UInt8, Lib.splitK [44] 0 (Lib.count s [44]) s = cutL s
  | [] => by
    rw [Lib.count_miss (by simp [Lib.index])]
    rfl
  | c :: l => by
    have ih := splitK_cut l
    by_cases h : c = 44
    · subst h
      rw [Lib.count_cons_eq, Nat.add_comm]
      have hix : Lib.index (44 :: l) [44] = 0 := by rw [Lib.index]; simp [List.isPrefixOf]
      unfold Lib.splitK cutL
      rw [hix]
      simp [ih]
    · rw [Lib.count_cons_ne c 44 l h]
      have hix := idx_cons c l h
      unfold cutL
      rw [if_neg h]
      by_cases hm : Lib.index l [44] = -1
      · rw [Lib.count_miss hm] at ih ⊢
        rw [← ih]
        rfl
      · have hge := Lib.index_ge l [44]
        obtain ⟨j, hj⟩ : ∃ j : Nat, Lib.index l [44] = j := ⟨(Lib.index l [44]).toNat, by omega⟩
        have hix' : Lib.index (c :: l) [44] = ((j + 1 : Nat) : Int) := by rw [hix, if_neg (fun e => hm (beq_iff_eq.1 e)), hj]; omega
        rw [Lib.count_hit (by simp) hj, Nat.add_comm 1] at ih ⊢
        rw [← ih]
        unfold Lib.splitK
        rw [hj, hix', if_neg (fun e => by have := beq_iff_eq.1 e; omega), if_neg (fun e => by have := beq_iff_eq.1 e; omega)]
        simp
theorem join_cut (s : List UInt8) : Lib.join (cutL s) [44] = s := by
  induction s with
  | nil => exact Lib.join_one _ _
  | cons c s ih =>
    obtain ⟨h, t, e⟩ := cutL_ne s
    unfold cutL
    rw [e] at ih ⊢
    rw [Lib.join_cons] at ih
    split
    · rename_i hc
      subst hc
      rw [Lib.join_cons]
      simp [Lib.joinTail] at ih ⊢
      exact ih
    · rw [Lib.join_cons]
      simp at ih ⊢
      exact ih
theorem cutL_one {x : List UInt8} (h : ∀ c ∈ x, c ≠ 44) : cutL x = [x] := by
  induction x with
  | nil => rfl
  | cons c x ih =>
    unfold cutL
    rw [if_neg (h c (by simp)), ih (fun d hd => h d (by simp [hd]))]
    rfl
theorem cutL_app {x : List UInt8} (h : ∀ c ∈ x, c ≠ 44) (s : List UInt8) : cutL (x ++ 44 :: s) = x :: cutL s := by
  induction x with
  | nil =>
    rw [List.nil_append]
    conv => lhs; unfold cutL
    rw [if_pos rfl]
  | cons c x ih =>
    rw [List.cons_append]
    conv => lhs; unfold cutL
    rw [if_neg (h c (by simp)), ih (fun d hd => h d (by simp [hd]))]
    rfl
theorem cut_join (x : List UInt8) (r : List (List UInt8)) (h : ∀ y ∈ x :: r, ∀ c ∈ y, c ≠ 44) : cutL (Lib.join (x :: r) [44]) = x :: r := by
  induction r generalizing x with
  | nil => rw [Lib.join_one]; exact cutL_one (h x (by simp))
  | cons y r ih =>
    have e : Lib.join (x :: y :: r) [44] = x ++ 44 :: Lib.join (y :: r) [44] := by
      rw [Lib.join_cons, Lib.join_cons]
      simp [Lib.joinTail]
    rw [e, cutL_app (h x (by simp)), ih y (fun z hz => h z (by simp at hz ⊢; exact .inr hz))]
theorem bytes_ext {x y : ByteArray} (h : x.data.toList = y.data.toList) : x = y := ByteArray.ext (Array.ext' h)
theorem pieces_data (s : ByteArray) : (pieces s).map (·.data.toList) = cutL s.data.toList := by
  unfold pieces
  rw [Lib.splitB_data]
  exact splitK_cut _
theorem pieces_join (s : ByteArray) : joinU (pieces s) = s.data.toList := by
  unfold joinU
  rw [pieces_data]
  exact join_cut _
theorem name_data {s : ByteArray} (h : nameOk s = true) : 1 ≤ s.size ∧ s.size ≤ 64 ∧ ∀ c ∈ s.data.toList, c ≠ 44 := by
  unfold nameOk at h
  simp only [Bool.and_eq_true, decide_eq_true_eq] at h
  refine ⟨h.1.1, h.1.2, fun c hc e => ?_⟩
  have := List.all_eq_true.1 h.2 c hc
  unfold nameC at this
  subst e
  revert this
  decide
theorem join_pieces (l : List ByteArray) (h0 : l ≠ []) (h : ∀ s ∈ l, nameOk s = true) (s : ByteArray) (hs : s.data.toList = joinU l) : pieces s = l := by
  have e : (pieces s).map (·.data.toList) = l.map (·.data.toList) := by
    rw [pieces_data, hs]
    unfold joinU
    cases l with
    | nil => exact absurd rfl h0
    | cons x r =>
      rw [List.map_cons]
      refine cut_join _ _ (fun y hy c hc => ?_)
      have hy : y ∈ (x :: r).map (·.data.toList) := hy
      obtain ⟨z, hz, rfl⟩ := List.mem_map.1 hy
      exact (name_data (h z hz)).2.2 c hc
  exact (List.map_inj_right (fun x y hxy => bytes_ext hxy)).1 e
theorem joinU_ne {l : List ByteArray} (h0 : l ≠ []) (h : ∀ s ∈ l, nameOk s = true) : joinU l ≠ [] := by
  cases l with
  | nil => exact absurd rfl h0
  | cons x r =>
    unfold joinU
    rw [List.map_cons, Lib.join_cons]
    intro e
    have h1 := (name_data (h x (by simp))).1
    have h2 : x.data.toList = [] := List.append_eq_nil_iff.1 e |>.1
    have h3 : x.size = x.data.toList.length := by simp
    rw [h3, h2] at h1
    simp at h1
theorem strOfNums_data (xs : List Int) : (strOfNums xs).data.toList = xs.map fun n => UInt8.ofNat n.toNat := rfl
theorem u8i_str {xs : List Int} (h : ∀ x ∈ xs, 0 ≤ x ∧ x < 256) : u8i (strOfNums xs).data.toList = xs := by
  rw [strOfNums_data]
  unfold u8i
  induction xs with
  | nil => rfl
  | cons a r ih =>
    have ha := h a (by simp)
    rw [List.map_cons, List.map_cons, ih (fun x hx => h x (by simp [hx]))]
    congr 1
    rw [UInt8.toNat_ofNat']
    omega
theorem str_u8i (l : List UInt8) : (strOfNums (u8i l)).data.toList = l := by
  rw [strOfNums_data]
  unfold u8i
  induction l with
  | nil => rfl
  | cons c l ih =>
    rw [List.map_cons, List.map_cons, ih, Int.toNat_natCast, UInt8.ofNat_toNat]
theorem u8i_range (l : List UInt8) : ∀ x ∈ u8i l, 0 ≤ x ∧ x < 256 := by
  intro x hx
  unfold u8i at hx
  obtain ⟨c, _, rfl⟩ := List.mem_map.1 hx
  have := c.toNat_lt
  omega
theorem be4_four (n : Int) (t : List Int) (h0 : 0 ≤ n) (h1 : n ≤ 4294967295) : be4 (four n ++ t) = n := by
  unfold be4 four
  simp
  omega
theorem four_be4 (l : List Int) (h4 : 4 ≤ l.length) (hl : ∀ x ∈ l, 0 ≤ x ∧ x < 256) : four (be4 l) = l.take 4 := by
  match l, h4 with
  | a :: b :: c :: d :: t, _ =>
    have ha := hl a (by simp)
    have hb := hl b (by simp)
    have hc := hl c (by simp)
    have hd := hl d (by simp)
    unfold be4 four
    simp
    omega
theorem four_length (n : Int) : (four n).length = 4 := rfl
theorem four_range (n : Int) : ∀ x ∈ four n, 0 ≤ x ∧ x < 256 := by
  intro x hx
  unfold four at hx
  simp at hx
  omega
end Go.Proofs.YtdplnedpbkpgpaaGreatDoor

namespace Go.Proofs.YtdplnedpbkpgpaaGreatDoor
set_option linter.all false
open Go.RowKit

def InB (l : List Int) : Prop := ∀ x ∈ l, 0 ≤ x ∧ x < 256
theorem InB.left {a b : List Int} (h : InB (a ++ b)) : InB a := fun x hx => h x (by simp [hx])
theorem InB.right {a b : List Int} (h : InB (a ++ b)) : InB b := fun x hx => h x (by simp [hx])
theorem InB.drop {a : List Int} (h : InB a) (n : Nat) : InB (a.drop n) := fun x hx => h x (List.mem_of_mem_drop hx)
theorem InB.take {a : List Int} (h : InB a) (n : Nat) : InB (a.take n) := fun x hx => h x (List.mem_of_mem_take hx)

/-- A field's bytes, as it was read of them. -/
def Match (p : PF) (pre : List Int) : Prop := if p.kind = 2 then ∃ b, pre = [b] ∧ bytesP p = [if b = 0 then 0 else 1] else bytesP p = pre
theorem Match.len {p : PF} {pre : List Int} (h : Match p pre) : (bytesP p).length = pre.length := by
  unfold Match at h
  split at h
  · obtain ⟨b, rfl, e⟩ := h
    rw [e]; rfl
  · rw [h]

theorem rText_ok {l : List Int} (hl : InB l) (h : (rText l).e = 0) : 4 ≤ l.length ∧ be4 l ≤ 32768 ∧ 0 ≤ be4 l ∧ 4 + (be4 l).toNat ≤ l.length ∧ (rText l).text = (l.drop 4).take (be4 l).toNat ∧ (rText l).rest = l.drop (4 + (be4 l).toNat) := by
  have hb := be4_ok l hl
  unfold rText rShort at h ⊢
  split at h
  · cases h
  · rename_i h4
    rw [if_neg h4]
    unfold rTextN at h ⊢
    split at h
    · cases h
    · rename_i h5
      split at h
      · cases h
      · rename_i h6
        rw [if_neg h5, if_neg h6]
        rw [List.length_drop] at h6
        exact ⟨by omega, by omega, hb.1, by omega, rfl, by rw [List.drop_drop]⟩
theorem take_text {l : List Int} (hl : InB l) (h4 : 4 ≤ l.length) (h5 : 4 + (be4 l).toNat ≤ l.length) (h0 : 0 ≤ be4 l) :
    four ((l.drop 4).take (be4 l).toNat).length ++ (l.drop 4).take (be4 l).toNat = l.take (4 + (be4 l).toNat) := by
  have e : ((((l.drop 4).take (be4 l).toNat).length : Nat) : Int) = be4 l := by
    rw [List.length_take, List.length_drop]
    omega
  rw [e, four_be4 l h4 hl, List.take_add]

theorem kind_again (k : Nat) (h1 : 1 ≤ k) (h6 : k ≤ 6) (l : List Int) (hl : InB l) (h : (rKind k l).e = 0) :
    faultP ⟨k, (rKind k l).n, (rKind k l).text, (rKind k l).list⟩ = 0 ∧ (0 ≤ (rKind k l).n ∧ (rKind k l).n ≤ 4294967295) ∧
    ∃ pre, l = pre ++ (rKind k l).rest ∧ Match ⟨k, (rKind k l).n, (rKind k l).text, (rKind k l).list⟩ pre := by
  have hk : k = 1 ∨ k = 2 ∨ k = 3 ∨ k = 4 ∨ k = 5 ∨ k = 6 := by omega
  rcases hk with rfl | rfl | rfl | rfl | rfl | rfl
  · have e : rKind 1 l = rOctet l := rfl
    rw [e] at h ⊢
    cases l with
    | nil => cases h
    | cons a t =>
      have ha := hl a (by simp)
      have e2 : rOctet (a :: t) = ⟨0, a, [], [], t⟩ := by unfold rOctet; simp
      rw [e2]
      refine ⟨by unfold faultP over; simp; omega, ⟨ha.1, by dsimp; omega⟩, [a], rfl, ?_⟩
      unfold Match bytesP
      simp
      omega
  · have e : rKind 2 l = rFlag l := rfl
    rw [e] at h ⊢
    cases l with
    | nil => cases h
    | cons a t =>
      have ha := hl a (by simp)
      have e2 : rFlag (a :: t) = ⟨0, min a 1, [], [], t⟩ := by unfold rFlag rOctet; simp
      rw [e2]
      refine ⟨by unfold faultP over; simp; omega, ⟨by dsimp; omega, by dsimp; omega⟩, [a], rfl, ?_⟩
      unfold Match bytesP
      simp
      split <;> omega
  · have e : rKind 3 l = rNumber l := rfl
    rw [e] at h ⊢
    by_cases h4 : l.length < 4
    · unfold rNumber rShort at h
      rw [if_pos h4] at h
      cases h
    · have e2 : rNumber l = ⟨0, be4 l, [], [], l.drop 4⟩ := by unfold rNumber; rw [if_neg h4]
      rw [e2]
      have hb := be4_ok l hl
      refine ⟨rfl, ⟨hb.1, by dsimp; omega⟩, l.take 4, (List.take_append_drop _ _).symm, ?_⟩
      exact four_be4 l (by omega) hl
  · have e : rKind 4 l = rText l := rfl
    rw [e] at h ⊢
    obtain ⟨a1, a2, a3, a4, a5, a6⟩ := rText_ok hl h
    obtain ⟨b1, b2, b3⟩ := rText_text l
    rw [b3, a5, a6]
    refine ⟨?_, ⟨Int.le_refl 0, show (0 : Int) ≤ 4294967295 by decide⟩, l.take (4 + (be4 l).toNat), (List.take_append_drop _ _).symm, ?_⟩
    · rw [a5] at b1
      show over _ 32768 6 = 0
      exact over_neg (by dsimp only; omega)
    · exact take_text hl a1 a4 a3
  · have e : rKind 5 l = rNames l := rfl
    rw [e] at h ⊢
    unfold rNames rNamesT at h ⊢
    split at h
    · rename_i h7
      exact absurd h h7
    · rename_i h7
      have h7 : (rText l).e = 0 := by simpa using h7
      obtain ⟨a1, a2, a3, a4, a5, a6⟩ := rText_ok hl h7
      rw [if_neg (by simp [h7])]
      split at h
      · rename_i h8
        rw [if_pos h8]
        refine ⟨rfl, ⟨Int.le_refl 0, show (0 : Int) ≤ 4294967295 by decide⟩, l.take (4 + (be4 l).toNat), ?_, ?_⟩
        · dsimp only
          rw [a6]
          exact (List.take_append_drop _ _).symm
        · have := take_text hl a1 a4 a3
          rw [← a5, h8] at this
          exact this
      · rename_i h8
        rw [if_neg h8]
        have hp := pieces_join (strOfNums (rText l).text)
        have hr : InB (rText l).text := by rw [a5]; exact (hl.drop 4).take _
        have hu := u8i_str hr
        refine ⟨h, ⟨Int.le_refl 0, show (0 : Int) ≤ 4294967295 by decide⟩, l.take (4 + (be4 l).toNat), ?_, ?_⟩
        · dsimp only
          rw [a6]
          exact (List.take_append_drop _ _).symm
        · show four (joinU (pieces (strOfNums (rText l).text))).length ++ u8i (joinU (pieces (strOfNums (rText l).text))) = _
          rw [hp, hu]
          have e3 : (strOfNums (rText l).text).data.toList.length = (rText l).text.length := by rw [strOfNums_data, List.length_map]
          rw [e3, a5]
          exact take_text hl a1 a4 a3
  · have e : rKind 6 l = rRest l := rfl
    rw [e] at h ⊢
    unfold rRest at h ⊢
    exact ⟨h, ⟨Int.le_refl 0, show (0 : Int) ≤ 4294967295 by decide⟩, l, by simp, rfl⟩

/-- Fields, as they were read of these bytes. -/
def Parts : List PF → List Int → Prop
  | [], l => l = []
  | p :: ps, l => ∃ pre rest, l = pre ++ rest ∧ Match p pre ∧ Parts ps rest
theorem readFrom_again : ∀ (ks l : List Int) (acc : List PF), (∀ k ∈ ks, 1 ≤ k ∧ k ≤ 6) → InB l →
    ((readFrom ks l acc).1 ≠ 0 ∧ (readFrom ks l acc).2 = []) ∨
    ((readFrom ks l acc).1 = 0 ∧ ∃ ps, (readFrom ks l acc).2 = acc ++ ps ∧ ps.map (·.kind) = ks ∧ (∀ p ∈ ps, faultP p = 0 ∧ 0 ≤ p.n ∧ p.n ≤ 4294967295) ∧ Parts ps l)
  | [], l, acc, _, _ => by
    unfold readFrom
    split
    · exact .inl ⟨by decide, rfl⟩
    · rename_i h
      refine .inr ⟨rfl, [], by simp, rfl, fun p hp => by simp at hp, ?_⟩
      exact List.eq_nil_of_length_eq_zero (by omega)
  | k :: ks, l, acc, hk, hl => by
    have h16 := hk k (by simp)
    obtain ⟨j, rfl⟩ := Int.eq_ofNat_of_zero_le (show 0 ≤ k by omega)
    unfold readFrom
    rw [Int.toNat_natCast]
    by_cases he : (rKind j l).e = 0
    · rw [if_neg (by simp [he])]
      obtain ⟨g1, g2, pre, g3, g4⟩ := kind_again j (by omega) (by omega) l hl he
      have hr : InB (rKind j l).rest := by
        rw [g3] at hl
        exact hl.right
      rcases readFrom_again ks (rKind j l).rest (acc ++ [⟨j, (rKind j l).n, (rKind j l).text, (rKind j l).list⟩]) (fun k hk2 => hk k (by simp [hk2])) hr with h | ⟨h0, ps, h1, h2, h3, h4⟩
      · exact .inl h
      · refine .inr ⟨h0, ⟨j, (rKind j l).n, (rKind j l).text, (rKind j l).list⟩ :: ps, by rw [h1]; simp, by rw [List.map_cons, h2], fun p hp => ?_, pre, _, g3, g4, h4⟩
        rcases List.mem_cons.1 hp with rfl | hp
        · exact ⟨g1, g2⟩
        · exact h3 p hp
    · rw [if_pos he]
      exact .inl ⟨he, rfl⟩
theorem Parts.len : ∀ {ps : List PF} {l : List Int}, Parts ps l → (ps.flatMap bytesP).length = l.length
  | [], l, h => by rw [h]; rfl
  | p :: ps, l, ⟨pre, rest, e, m, h⟩ => by
    rw [e, List.flatMap_cons, List.length_append, List.length_append, m.len, Parts.len h]
theorem Parts.at_ : ∀ {ps : List PF} {l : List Int}, Parts ps l → ∀ (i : Nat) (p : PF), ps[i]? = some p →
    Match p ((l.drop ((ps.take i).flatMap bytesP).length).take (bytesP p).length) ∧ ((ps.flatMap bytesP).drop ((ps.take i).flatMap bytesP).length).take (bytesP p).length = bytesP p ∧
    ((ps.take i).flatMap bytesP).length + (bytesP p).length ≤ l.length
  | [], l, h, i, p, hp => by simp at hp
  | q :: ps, l, ⟨pre, rest, e, m, h⟩, 0, p, hp => by
    simp at hp
    subst hp
    rw [e]
    simp [List.flatMap_cons, m.len]
    exact m
  | q :: ps, l, ⟨pre, rest, e, m, h⟩, i + 1, p, hp => by
    simp at hp
    obtain ⟨h1, h2, h3⟩ := Parts.at_ h i p hp
    rw [e, List.take_succ_cons, List.flatMap_cons, List.length_append, m.len, List.flatMap_cons, List.length_append]
    rw [← List.drop_drop, List.drop_left]
    have e2 : (bytesP q ++ ps.flatMap bytesP).drop (pre.length + ((ps.take i).flatMap bytesP).length) = (ps.flatMap bytesP).drop ((ps.take i).flatMap bytesP).length := by
      rw [← List.drop_drop, ← m.len, List.drop_left]
    rw [e2]
    exact ⟨h1, h2, by omega⟩
theorem rowOk_range {ks : List Int} (h : rowOk ks = true) : ∀ k ∈ ks, 1 ≤ k ∧ k ≤ 6 := fun k hk => by
  obtain ⟨i, hi⟩ := List.getElem?_of_mem hk
  exact rowOk_at h hi
/-- What is read is written as it came. -/
theorem again_law (ks l : List Int) (hl : InB l) (hm : l.length ≤ 33792) :
    ((readP ks l).1 ≠ 0 ∧ (readP ks l).2 = []) ∨
    ((readP ks l).1 = 0 ∧ (readP ks l).2.map (·.kind) = ks ∧ OkP (readP ks l).2 ∧ (∀ p ∈ (readP ks l).2, 1 ≤ p.kind ∧ p.kind ≤ 6 ∧ faultP p = 0 ∧ 0 ≤ p.n ∧ p.n ≤ 4294967295) ∧ Parts (readP ks l).2 l) := by
  unfold readP
  by_cases hr : rowOk ks = true
  · rw [if_pos hr]
    rcases readFrom_again ks l [] (rowOk_range hr) hl with h | ⟨h0, ps, h1, h2, h3, h4⟩
    · exact .inl h
    · rw [List.nil_append] at h1
      rw [h1]
      refine .inr ⟨h0, h2, ⟨by rw [h2]; exact hr, fun p hp => (h3 p hp).1, by rw [h4.len]; exact hm⟩, fun p hp => ?_, h4⟩
      have hk := rowOk_range hr p.kind (by rw [← h2]; exact List.mem_map_of_mem hp)
      exact ⟨hk.1, hk.2, h3 p hp⟩
  · rw [if_neg hr]
    exact .inl ⟨by decide, rfl⟩

/-- A field with what its kind names alone. -/
def ownP (p : PF) : PF := ⟨p.kind, if p.kind = 4 ∨ p.kind = 5 ∨ p.kind = 6 then 0 else p.n, if p.kind = 4 ∨ p.kind = 6 then p.text else [], if p.kind = 5 then p.list else []⟩
theorem rText_back (t tl : List Int) (h : t.length ≤ 32768) : rText (four t.length ++ t ++ tl) = ⟨0, 0, t, [], tl⟩ := by
  have hb : be4 (four t.length ++ t ++ tl) = (t.length : Int) := by
    rw [List.append_assoc]
    exact be4_four _ _ (by omega) (by omega)
  have hd : (four t.length ++ t ++ tl).drop 4 = t ++ tl := by
    rw [List.append_assoc]
    exact List.drop_left' rfl
  unfold rText
  rw [if_neg (by simp [four_length]), hb, hd, Int.toNat_natCast]
  unfold rTextN
  rw [if_neg (by omega), if_neg (by simp)]
  simp
section
variable (n : Int) (t : List Int) (ls : List ByteArray) (l : List Int)
theorem rKind_1 : rKind 1 l = rOctet l := rfl
theorem rKind_2 : rKind 2 l = rFlag l := rfl
theorem rKind_3 : rKind 3 l = rNumber l := rfl
theorem rKind_4 : rKind 4 l = rText l := rfl
theorem rKind_5 : rKind 5 l = rNames l := rfl
theorem rKind_6 : rKind 6 l = rRest l := rfl
theorem bytesP_1 : bytesP ⟨1, n, t, ls⟩ = [n % 256] := rfl
theorem bytesP_2 : bytesP ⟨2, n, t, ls⟩ = [n % 256] := rfl
theorem bytesP_3 : bytesP ⟨3, n, t, ls⟩ = four n := rfl
theorem bytesP_4 : bytesP ⟨4, n, t, ls⟩ = four t.length ++ t := rfl
theorem bytesP_5 : bytesP ⟨5, n, t, ls⟩ = four (joinU ls).length ++ u8i (joinU ls) := rfl
theorem bytesP_6 : bytesP ⟨6, n, t, ls⟩ = t := rfl
theorem faultP_1 : faultP ⟨1, n, t, ls⟩ = over n 255 5 := rfl
theorem faultP_2 : faultP ⟨2, n, t, ls⟩ = over n 1 5 := rfl
theorem faultP_3 : faultP ⟨3, n, t, ls⟩ = 0 := rfl
theorem faultP_4 : faultP ⟨4, n, t, ls⟩ = over t.length 32768 6 := rfl
theorem faultP_5 : faultP ⟨5, n, t, ls⟩ = namesBad ls := rfl
theorem faultP_6 : faultP ⟨6, n, t, ls⟩ = over t.length 33792 6 := rfl
end
/-- What a right field's bytes are read as. -/
def Backs (k : Nat) (p : PF) (tl : List Int) : Prop := rKind k (bytesP p ++ tl) = ⟨0, (ownP p).n, (ownP p).text, (ownP p).list, tl⟩
theorem back1 (n : Int) (t : List Int) (ls : List ByteArray) (tl : List Int) (hn : 0 ≤ n) (hf : faultP ⟨1, n, t, ls⟩ = 0) : Backs 1 ⟨1, n, t, ls⟩ tl := by
  rw [faultP_1] at hf
  have := over_ok hf (by decide)
  unfold Backs
  rw [rKind_1, bytesP_1, show ownP ⟨1, n, t, ls⟩ = ⟨1, n, [], []⟩ from rfl, show n % 256 = n by omega]
  unfold rOctet
  simp
theorem back2 (n : Int) (t : List Int) (ls : List ByteArray) (tl : List Int) (hn : 0 ≤ n) (hf : faultP ⟨2, n, t, ls⟩ = 0) : Backs 2 ⟨2, n, t, ls⟩ tl := by
  rw [faultP_2] at hf
  have := over_ok hf (by decide)
  unfold Backs
  rw [rKind_2, bytesP_2, show ownP ⟨2, n, t, ls⟩ = ⟨2, n, [], []⟩ from rfl, show n % 256 = n by omega]
  unfold rFlag rOctet
  simp
  omega
theorem back3 (n : Int) (t : List Int) (ls : List ByteArray) (tl : List Int) (hn : 0 ≤ n ∧ n ≤ 4294967295) : Backs 3 ⟨3, n, t, ls⟩ tl := by
  unfold Backs
  rw [rKind_3, bytesP_3, show ownP ⟨3, n, t, ls⟩ = ⟨3, n, [], []⟩ from rfl]
  unfold rNumber
  rw [if_neg (by simp [four_length]), be4_four n tl hn.1 hn.2]
  congr 1
theorem back4 (n : Int) (t : List Int) (ls : List ByteArray) (tl : List Int) (hf : faultP ⟨4, n, t, ls⟩ = 0) : Backs 4 ⟨4, n, t, ls⟩ tl := by
  rw [faultP_4] at hf
  have := over_ok hf (by decide)
  unfold Backs
  rw [rKind_4, bytesP_4, show ownP ⟨4, n, t, ls⟩ = ⟨4, 0, t, []⟩ from rfl]
  exact rText_back t tl (by omega)
theorem back5 (n : Int) (t : List Int) (ls : List ByteArray) (tl : List Int) (hf : faultP ⟨5, n, t, ls⟩ = 0) : Backs 5 ⟨5, n, t, ls⟩ tl := by
  rw [faultP_5] at hf
  obtain ⟨a1, a2⟩ := namesBad_ok hf
  have hj := joinU_le ls a2
  unfold Backs
  rw [rKind_5, bytesP_5, show ownP ⟨5, n, t, ls⟩ = ⟨5, 0, [], ls⟩ from rfl]
  have hlen : (u8i (joinU ls)).length = (joinU ls).length := by unfold u8i; rw [List.length_map]
  have hT := rText_back (u8i (joinU ls)) tl (by omega)
  rw [hlen] at hT
  unfold rNames
  rw [hT]
  unfold rNamesT
  rw [if_neg (by simp)]
  dsimp only
  by_cases h0 : ls = []
  · subst h0
    rw [if_pos (by rfl)]
  · have hok : ∀ s ∈ ls, nameOk s = true := by
      unfold namesBad at hf
      split at hf
      · cases hf
      · split at hf
        · rename_i h8
          exact List.all_eq_true.1 h8
        · cases hf
    have hne : u8i (joinU ls) ≠ [] := fun e => joinU_ne h0 hok (List.map_eq_nil_iff.1 e)
    rw [if_neg hne, join_pieces ls h0 hok _ (str_u8i _), hf]
theorem back6 (n : Int) (t : List Int) (ls : List ByteArray) (hf : faultP ⟨6, n, t, ls⟩ = 0) : Backs 6 ⟨6, n, t, ls⟩ [] := by
  rw [faultP_6] at hf
  unfold Backs
  rw [rKind_6, bytesP_6, show ownP ⟨6, n, t, ls⟩ = ⟨6, 0, t, []⟩ from rfl, List.append_nil]
  unfold rRest
  rw [hf]
theorem kind_back (p : PF) (tl : List Int) (h1 : 1 ≤ p.kind) (h6 : p.kind ≤ 6) (hn : 0 ≤ p.n ∧ p.n ≤ 4294967295) (hf : faultP p = 0) (hlast : p.kind = 6 → tl = []) : Backs p.kind.toNat p tl := by
  obtain ⟨k, n, t, ls⟩ := p
  dsimp only at h1 h6 hn hlast ⊢
  have hk : k = 1 ∨ k = 2 ∨ k = 3 ∨ k = 4 ∨ k = 5 ∨ k = 6 := by omega
  rcases hk with rfl | rfl | rfl | rfl | rfl | rfl
  · exact back1 n t ls tl hn.1 hf
  · exact back2 n t ls tl hn.1 hf
  · exact back3 n t ls tl hn
  · exact back4 n t ls tl hf
  · exact back5 n t ls tl hf
  · obtain rfl := hlast rfl
    exact back6 n t ls hf
theorem readFrom_back : ∀ (ps : List PF) (acc : List PF), (∀ p ∈ ps, (1 ≤ p.kind ∧ p.kind ≤ 6) ∧ faultP p = 0 ∧ 0 ≤ p.n ∧ p.n ≤ 4294967295) → (∀ i p, ps[i]? = some p → p.kind = 6 → i + 1 = ps.length) →
    readFrom (ps.map (·.kind)) (ps.flatMap bytesP) acc = (0, acc ++ ps.map ownP)
  | [], acc, _, _ => by simp [readFrom]
  | p :: ps, acc, h, hl => by
    obtain ⟨hk, hf, hn⟩ := h p (by simp)
    have hlast : p.kind = 6 → ps.flatMap bytesP = [] := fun h6 => by
      have := hl 0 p rfl h6
      simp at this
      rw [this]; rfl
    have hb := kind_back p (ps.flatMap bytesP) hk.1 hk.2 hn hf hlast
    unfold Backs at hb
    rw [List.map_cons, List.flatMap_cons]
    unfold readFrom
    rw [hb]
    rw [if_neg (by simp)]
    dsimp only
    rw [readFrom_back ps _ (fun q hq => h q (by simp [hq])) (fun i q hq h6 => by have := hl (i + 1) q (by simpa using hq) h6; simp at this; omega)]
    rw [List.map_cons, List.append_assoc]
    rfl
/-- What is written is read, with what the kinds name. -/
theorem back_law (ps : List PF) (h : OkP ps) (hn : ∀ p ∈ ps, 0 ≤ p.n ∧ p.n ≤ 4294967295) : readP (ps.map (·.kind)) (ps.flatMap bytesP) = (0, ps.map ownP) := by
  unfold readP
  rw [if_pos h.1]
  refine readFrom_back ps [] (fun p hp => ⟨rowOk_range h.1 p.kind (List.mem_map_of_mem hp), h.2.1 p hp, hn p hp⟩) (fun i p hp h6 => ?_)
  have hi : i < ps.length := (List.getElem?_eq_some_iff.1 hp).1
  have := rowOk_iff.1 h.1 i (by rw [List.length_map]; exact hi)
  unfold goodAt at this
  rw [show (ps.map (·.kind)).getD i 0 = 6 by simp [List.getD, hp, h6]] at this
  simp at this
  have := this.2
  omega
theorem sizeP_ok {p : PF} (h1 : 1 ≤ p.kind) (h6 : p.kind ≤ 6) (hf : faultP p = 0) : sizeP p = (bytesP p).length := if_pos ⟨h1, h6, hf⟩
theorem bytesP_range {p : PF} (h : InB p.text) : InB (bytesP p) := by
  unfold bytesP
  split
  · intro x hx; simp at hx; omega
  split
  · intro x hx; simp at hx; omega
  split
  · exact four_range _
  split
  · intro x hx
    rcases List.mem_append.1 hx with hx | hx
    · exact four_range _ x hx
    · exact h x hx
  split
  · intro x hx
    rcases List.mem_append.1 hx with hx | hx
    · exact four_range _ x hx
    · exact u8i_range _ x hx
  · exact h
end Go.Proofs.YtdplnedpbkpgpaaGreatDoor

namespace Go.Proofs.YtdplnedpbkpgpaaGreatDoor
set_option linter.all false
def U32 (n : Int) : Prop := 0 ≤ n ∧ n ≤ 4294967295
end Go.Proofs.YtdplnedpbkpgpaaGreatDoor

namespace Go.Proofs.YtdplnedpbkpgpaaGreatDoor
set_option linter.all false
open Go.RowKit


def sOf (s : ByteArray) : List Int := u8i s.data.toList
theorem sOf_len (s : ByteArray) : (sOf s).length = s.size := by unfold sOf u8i; simp
theorem rText_inb {l : List Int} (hl : InB l) : InB (rText l).text := by
  unfold rText rTextN rShort
  split
  · exact fun x hx => by simp at hx
  · split
    · exact fun x hx => by simp at hx
    · split
      · exact fun x hx => by simp at hx
      · exact (hl.drop 4).take _
theorem kind_inb (k : Nat) (h6 : k ≤ 6) (l : List Int) (hl : InB l) : InB (rKind k l).text := by
  have z : InB [] := fun x hx => by simp at hx
  have ho : (rOctet l).text = [] := by unfold rOctet rShort; split <;> rfl
  have hk : k = 0 ∨ k = 1 ∨ k = 2 ∨ k = 3 ∨ k = 4 ∨ k = 5 ∨ k = 6 := by omega
  rcases hk with rfl | rfl | rfl | rfl | rfl | rfl | rfl
  · exact hl
  · rw [rKind_1, ho]; exact z
  · rw [rKind_2, show (rFlag l).text = (rOctet l).text from rfl, ho]; exact z
  · rw [rKind_3]; unfold rNumber rShort; split <;> exact z
  · rw [rKind_4]; exact rText_inb hl
  · rw [rKind_5]; unfold rNames rNamesT; split; exact z; split <;> exact z
  · rw [rKind_6]; exact hl
theorem readFrom_inb : ∀ (ks l : List Int) (acc : List PF), (∀ k ∈ ks, 1 ≤ k ∧ k ≤ 6) → InB l → (∀ p ∈ acc, InB p.text) → ∀ p ∈ (readFrom ks l acc).2, InB p.text
  | [], l, acc, _, _, ha => by
    unfold readFrom
    split
    · exact fun p hp => by simp at hp
    · exact ha
  | k :: ks, l, acc, hk, hl, ha => by
    have h16 := hk k (by simp)
    unfold readFrom
    split
    · exact fun p hp => by simp at hp
    · obtain ⟨n, hn⟩ := rKind_rest k.toNat l
      refine readFrom_inb ks _ _ (fun k hk2 => hk k (by simp [hk2])) (by rw [hn]; exact hl.drop n) (fun p hp => ?_)
      rcases List.mem_append.1 hp with hp | hp
      · exact ha p hp
      · simp at hp
        subst hp
        exact kind_inb _ (by omega) l hl
theorem readP_good (ks l : List Int) (hl : InB l) (h : (readP ks l).1 = 0) : (readP ks l).2.map (·.kind) = ks ∧ ∀ p ∈ (readP ks l).2, U32 p.n ∧ InB p.text := by
  unfold readP at h ⊢
  split at h
  · rename_i hr
    rw [if_pos hr]
    have h2 := readFrom_inb ks l [] (rowOk_range hr) hl (fun p hp => by simp at hp)
    rcases readFrom_again ks l [] (rowOk_range hr) hl with e | ⟨_, ps, e1, e2, e3, _⟩
    · exact absurd h e.1
    · rw [e1] at h2 ⊢
      refine ⟨by simpa using e2, fun p hp => ⟨(e3 p (by simpa using hp)).2, h2 p hp⟩⟩
  · cases h
theorem str_size (l : List Int) : (strOfNums l).size = l.length := by
  show (strOfNums l).data.size = _
  rw [← Array.length_toList, strOfNums_data, List.length_map]
theorem str_sOf (s : ByteArray) : strOfNums (sOf s) = s := bytes_ext (str_u8i _)
theorem rKind_own (k : Nat) (h1 : 1 ≤ k) (h6 : k ≤ 6) (l : List Int) : ownP ⟨k, (rKind k l).n, (rKind k l).text, (rKind k l).list⟩ = ⟨k, (rKind k l).n, (rKind k l).text, (rKind k l).list⟩ := by
  have ho : (rOctet l).text = [] ∧ (rOctet l).list = [] := by unfold rOctet rShort; split <;> exact ⟨rfl, rfl⟩
  have hN : (rNumber l).text = [] ∧ (rNumber l).list = [] := by unfold rNumber rShort; split <;> exact ⟨rfl, rfl⟩
  have hT := rText_text l
  have hL : (rNames l).text = [] ∧ (rNames l).n = 0 := by unfold rNames rNamesT; split; exact ⟨rfl, rfl⟩; split <;> exact ⟨rfl, rfl⟩
  have hk : k = 1 ∨ k = 2 ∨ k = 3 ∨ k = 4 ∨ k = 5 ∨ k = 6 := by omega
  rcases hk with rfl | rfl | rfl | rfl | rfl | rfl
  · rw [rKind_1, ho.1, ho.2]; rfl
  · rw [rKind_2, show (rFlag l).text = (rOctet l).text from rfl, show (rFlag l).list = (rOctet l).list from rfl, ho.1, ho.2]; rfl
  · rw [rKind_3, hN.1, hN.2]; rfl
  · rw [rKind_4, hT.2.1, hT.2.2]; rfl
  · rw [rKind_5, hL.1, hL.2]; rfl
  · rw [rKind_6]; rfl
theorem readFrom_own : ∀ (ks l : List Int) (acc : List PF), (∀ k ∈ ks, 1 ≤ k ∧ k ≤ 6) → (∀ p ∈ acc, ownP p = p) → ∀ p ∈ (readFrom ks l acc).2, ownP p = p
  | [], l, acc, _, ha => by
    unfold readFrom
    split
    · exact fun p hp => by simp at hp
    · exact ha
  | k :: ks, l, acc, hk, ha => by
    have h16 := hk k (by simp)
    obtain ⟨j, rfl⟩ := Int.eq_ofNat_of_zero_le (show 0 ≤ k by omega)
    unfold readFrom
    split
    · exact fun p hp => by simp at hp
    · refine readFrom_own ks _ _ (fun k hk2 => hk k (by simp [hk2])) (fun p hp => ?_)
      rcases List.mem_append.1 hp with hp | hp
      · exact ha p hp
      · simp only [List.mem_singleton] at hp
        subst hp
        rw [Int.toNat_natCast]
        exact rKind_own j (by omega) (by omega) l
theorem readP_own (ks l : List Int) : ∀ p ∈ (readP ks l).2, ownP p = p := by
  unfold readP
  split
  · rename_i hr
    exact readFrom_own ks l [] (rowOk_range hr) (fun p hp => by simp at hp)
  · exact fun p hp => by simp at hp
end Go.Proofs.YtdplnedpbkpgpaaGreatDoor

namespace Go.Proofs.YtdplnedpbkpgpaaGreatDoor
set_option linter.all false
open Go.RowKit

/-- A request. -/
structure RQ where
  kind : Int
  text : ByteArray
  value : ByteArray
  lang : ByteArray
  cols : Int
  rows : Int
  width : Int
  height : Int
  mA : Option Addr
  mc : Nat
  modes : List Int
  on : Bool
  code : Int
def RQ.cells (m : RQ) : List Value := [.int .i64 m.kind, .string m.text, .string m.value, .string m.lang, .int .u32 m.cols, .int .u32 m.rows, .int .u32 m.width, .int .u32 m.height, .slice m.mA m.modes.length m.mc, .bool m.on, .int .u32 m.code]
def RQ.val (m : RQ) : Value := .agg #[.int .i64 m.kind, .string m.text, .string m.value, .string m.lang, .int .u32 m.cols, .int .u32 m.rows, .int .u32 m.width, .int .u32 m.height, .slice m.mA m.modes.length m.mc, .bool m.on, .int .u32 m.code]
def RNums (m : RQ) : Prop := U32 m.cols ∧ U32 m.rows ∧ U32 m.width ∧ U32 m.height ∧ U32 m.code
structure RQ.ok (w : World) (m : RQ) : Prop where
  modes : RdG (.int .u8) w m.mA m.modes
  mle : m.modes.length ≤ m.mc
  mmax : m.mc ≤ maxLen
  bytes : ∀ x ∈ m.modes, 0 ≤ x ∧ x < 256
  nums : RNums m
  text : m.text.size ≤ maxLen
  value : m.value.size ≤ maxLen
  lang : m.lang.size ≤ maxLen
theorem RQ.ok.only {w w' : World} {m : RQ} (h : m.ok w) (hb : Only [] w w') : m.ok w' := { h with modes := h.modes.only hb }
def zeroR : RQ := ⟨0, ⟨#[]⟩, ⟨#[]⟩, ⟨#[]⟩, 0, 0, 0, 0, none, 0, [], false, 0⟩
def firstR (k : Nat) : RQ := { zeroR with kind := (k : Int) }
theorem zeroR_ok (w : World) : zeroR.ok w := ⟨RdG.nil, by simp [zeroR], by simp [zeroR], by simp [zeroR], by simp [zeroR, U32, RNums], Nat.zero_le _, Nat.zero_le _, Nat.zero_le _⟩
theorem firstR_ok (w : World) (k : Nat) : (firstR k).ok w := { zeroR_ok w with }
/-- The kinds' names. -/
def rnameL : Nat → List UInt8
  | 1 => [112, 116, 121, 45, 114, 101, 113]
  | 2 => [101, 110, 118]
  | 3 => [115, 104, 101, 108, 108]
  | 4 => [101, 120, 101, 99]
  | 5 => [115, 117, 98, 115, 121, 115, 116, 101, 109]
  | 6 => [119, 105, 110, 100, 111, 119, 45, 99, 104, 97, 110, 103, 101]
  | 7 => [120, 111, 110, 45, 120, 111, 102, 102]
  | 8 => [115, 105, 103, 110, 97, 108]
  | 9 => [101, 120, 105, 116, 45, 115, 116, 97, 116, 117, 115]
  | 10 => [101, 120, 105, 116, 45, 115, 105, 103, 110, 97, 108]
  | _ => []
def rname (k : Nat) : ByteArray := ⟨(rnameL k).toArray⟩
/-- The sorts of the kinds' fields. -/
def rkinds : Nat → List Int
  | 1 => [4, 3, 3, 3, 3, 4]
  | 2 => [4, 4]
  | 4 => [4]
  | 5 => [4]
  | 6 => [3, 3, 3, 3]
  | 7 => [2]
  | 8 => [4]
  | 9 => [3]
  | 10 => [4, 2, 4, 4]
  | _ => []
def pT (s : ByteArray) : PF := ⟨4, 0, sOf s, []⟩
def pN (n : Int) : PF := ⟨3, n, [], []⟩
def pB (b : Bool) : PF := ⟨2, if b then 1 else 0, [], []⟩
/-- The fields of a request. -/
def partsR (m : RQ) : Nat → List PF
  | 1 => [pT m.text, pN m.cols, pN m.rows, pN m.width, pN m.height, ⟨4, 0, m.modes, []⟩]
  | 2 => [pT m.text, pT m.value]
  | 4 => [pT m.text]
  | 5 => [pT m.text]
  | 6 => [pN m.cols, pN m.rows, pN m.width, pN m.height]
  | 7 => [pB m.on]
  | 8 => [pT m.text]
  | 9 => [pN m.code]
  | 10 => [pT m.text, pB m.on, pT m.value, pT m.lang]
  | _ => []
def wSign (c : UInt8) : Bool := decide (33 ≤ c.toNat) && decide (c.toNat ≤ 126)
/-- A text of so many signs. -/
def wordOk (s : ByteArray) (least : Nat) : Bool := decide (least ≤ s.size) && decide (s.size ≤ 64) && s.data.toList.all wSign
def wordE (s : ByteArray) (least : Nat) : Int := if wordOk s least then 0 else 4
def longE (n : Nat) : Int := if 1024 < n then 6 else 0
def firstE : List Int → Int
  | [] => 0
  | e :: l => if e ≠ 0 then e else firstE l
def hasEq (s : ByteArray) : Bool := decide ((61 : UInt8) ∈ s.data.toList)
/-- What is wrong with a request. -/
def askR (m : RQ) : Nat → Int
  | 1 => firstE [wordE m.text 0, longE m.modes.length]
  | 2 => if hasEq m.text then 4 else firstE [wordE m.text 1, longE m.value.size]
  | 4 => longE m.text.size
  | 5 => wordE m.text 1
  | 8 => wordE m.text 1
  | 10 => firstE [wordE m.text 1, wordE m.lang 0, longE m.value.size]
  | _ => 0
/-- A request with its fields put. -/
def putR (m : RQ) : Nat → List FD → RQ
  | 1, [a, b, c, d, e, f] => { m with text := strOfNums a.text, cols := b.n, rows := c.n, width := d.n, height := e.n, mA := f.tA, mc := f.tc, modes := f.text }
  | 2, [a, b] => { m with text := strOfNums a.text, value := strOfNums b.text }
  | 4, [a] => { m with text := strOfNums a.text }
  | 5, [a] => { m with text := strOfNums a.text }
  | 6, [b, c, d, e] => { m with cols := b.n, rows := c.n, width := d.n, height := e.n }
  | 7, [a] => { m with on := decide (a.n = 1) }
  | 8, [a] => { m with text := strOfNums a.text }
  | 9, [a] => { m with code := a.n }
  | 10, [a, b, c, d] => { m with text := strOfNums a.text, on := decide (b.n = 1), value := strOfNums c.text, lang := strOfNums d.text }
  | _, _ => m
/-- A request with the fields of its kind alone. -/
def ownK (m : RQ) : Nat → RQ
  | 1 => { firstR 1 with text := m.text, cols := m.cols, rows := m.rows, width := m.width, height := m.height, mA := m.mA, mc := m.mc, modes := m.modes }
  | 2 => { firstR 2 with text := m.text, value := m.value }
  | 4 => { firstR 4 with text := m.text }
  | 5 => { firstR 5 with text := m.text }
  | 6 => { firstR 6 with cols := m.cols, rows := m.rows, width := m.width, height := m.height }
  | 7 => { firstR 7 with on := m.on }
  | 8 => { firstR 8 with text := m.text }
  | 9 => { firstR 9 with code := m.code }
  | 10 => { firstR 10 with text := m.text, on := m.on, value := m.value, lang := m.lang }
  | k => firstR k
structure SameR (a b : RQ) : Prop where
  kind : b.kind = a.kind
  text : b.text = a.text
  value : b.value = a.value
  lang : b.lang = a.lang
  cols : b.cols = a.cols
  rows : b.rows = a.rows
  width : b.width = a.width
  height : b.height = a.height
  on : b.on = a.on
  code : b.code = a.code
  modes : b.modes = a.modes
theorem SameR.refl (a : RQ) : SameR a a := ⟨rfl, rfl, rfl, rfl, rfl, rfl, rfl, rfl, rfl, rfl, rfl⟩
theorem SameR.symm {a b : RQ} (h : SameR a b) : SameR b a := ⟨h.kind.symm, h.text.symm, h.value.symm, h.lang.symm, h.cols.symm, h.rows.symm, h.width.symm, h.height.symm, h.on.symm, h.code.symm, h.modes.symm⟩
theorem SameR.trans {a b c : RQ} (h : SameR a b) (g : SameR b c) : SameR a c := ⟨g.kind.trans h.kind, g.text.trans h.text, g.value.trans h.value, g.lang.trans h.lang, g.cols.trans h.cols, g.rows.trans h.rows, g.width.trans h.width, g.height.trans h.height, g.on.trans h.on, g.code.trans h.code, g.modes.trans h.modes⟩
theorem k10 {k : Nat} (h1 : 1 ≤ k) (h2 : k ≤ 10) : k = 1 ∨ k = 2 ∨ k = 3 ∨ k = 4 ∨ k = 5 ∨ k = 6 ∨ k = 7 ∨ k = 8 ∨ k = 9 ∨ k = 10 := by omega
theorem askR_same {a b : RQ} (h : SameR a b) (k : Nat) (h1 : 1 ≤ k) (h2 : k ≤ 10) : askR b k = askR a k := by
  rcases k10 h1 h2 with rfl | rfl | rfl | rfl | rfl | rfl | rfl | rfl | rfl | rfl <;> simp only [askR, h.text, h.value, h.lang, h.modes]
theorem partsR_same {a b : RQ} (h : SameR a b) (k : Nat) (h1 : 1 ≤ k) (h2 : k ≤ 10) : partsR b k = partsR a k := by
  rcases k10 h1 h2 with rfl | rfl | rfl | rfl | rfl | rfl | rfl | rfl | rfl | rfl <;> simp only [partsR, h.text, h.value, h.lang, h.modes, h.cols, h.rows, h.width, h.height, h.on, h.code]
theorem ask_own (m : RQ) (k : Nat) (h1 : 1 ≤ k) (h2 : k ≤ 10) : askR (ownK m k) k = askR m k := by
  rcases k10 h1 h2 with rfl | rfl | rfl | rfl | rfl | rfl | rfl | rfl | rfl | rfl <;> rfl
theorem parts_kinds (m : RQ) (k : Nat) (h1 : 1 ≤ k) (h2 : k ≤ 10) : (partsR m k).map (·.kind) = rkinds k := by
  rcases k10 h1 h2 with rfl | rfl | rfl | rfl | rfl | rfl | rfl | rfl | rfl | rfl <;> rfl
theorem parts_own (m : RQ) (k : Nat) (h1 : 1 ≤ k) (h2 : k ≤ 10) : (partsR m k).map ownP = partsR m k := by
  rcases k10 h1 h2 with rfl | rfl | rfl | rfl | rfl | rfl | rfl | rfl | rfl | rfl <;> rfl
theorem parts_n {m : RQ} (h : RNums m) (k : Nat) (h1 : 1 ≤ k) (h2 : k ≤ 10) : ∀ p ∈ partsR m k, 0 ≤ p.n ∧ p.n ≤ 4294967295 := by
  obtain ⟨a, b, c, d, e⟩ := h
  have z : (0 : Int) ≤ 0 ∧ (0 : Int) ≤ 4294967295 := by decide
  have on : 0 ≤ (if m.on then (1 : Int) else 0) ∧ (if m.on then (1 : Int) else 0) ≤ 4294967295 := by split <;> decide
  rcases k10 h1 h2 with rfl | rfl | rfl | rfl | rfl | rfl | rfl | rfl | rfl | rfl <;> intro p hp <;> simp only [partsR, List.mem_cons, List.not_mem_nil, or_false] at hp
  · rcases hp with rfl | rfl | rfl | rfl | rfl | rfl
    · exact z
    · exact a
    · exact b
    · exact c
    · exact d
    · exact z
  · rcases hp with rfl | rfl
    · exact z
    · exact z
  · subst hp; exact z
  · subst hp; exact z
  · rcases hp with rfl | rfl | rfl | rfl
    · exact a
    · exact b
    · exact c
    · exact d
  · subst hp; exact on
  · subst hp; exact z
  · subst hp; exact e
  · rcases hp with rfl | rfl | rfl | rfl
    · exact z
    · exact on
    · exact z
    · exact z
theorem fs1 {fs : List FD} {a : PF} (h : fs.map FD.pf = [a]) : ∃ x, fs = [x] ∧ x.pf = a := by
  match fs, h with
  | [x], h => simp at h; exact ⟨x, rfl, h⟩
theorem fs2 {fs : List FD} {a b : PF} (h : fs.map FD.pf = [a, b]) : ∃ x y, fs = [x, y] ∧ x.pf = a ∧ y.pf = b := by
  match fs, h with
  | [x, y], h => simp at h; exact ⟨x, y, rfl, h⟩
theorem fs4 {fs : List FD} {a b c d : PF} (h : fs.map FD.pf = [a, b, c, d]) : ∃ x y z u, fs = [x, y, z, u] ∧ x.pf = a ∧ y.pf = b ∧ z.pf = c ∧ u.pf = d := by
  match fs, h with
  | [x, y, z, u], h => simp at h; exact ⟨x, y, z, u, rfl, h⟩
theorem fs6 {fs : List FD} {a b c d e f : PF} (h : fs.map FD.pf = [a, b, c, d, e, f]) : ∃ x y z u v s, fs = [x, y, z, u, v, s] ∧ x.pf = a ∧ y.pf = b ∧ z.pf = c ∧ u.pf = d ∧ v.pf = e ∧ s.pf = f := by
  match fs, h with
  | [x, y, z, u, v, s], h => simp at h; exact ⟨x, y, z, u, v, s, rfl, h⟩
theorem pf_text {f : FD} {p : PF} (h : f.pf = p) : f.text = p.text := congrArg PF.text h
theorem pf_n {f : FD} {p : PF} (h : f.pf = p) : f.n = p.n := congrArg PF.n h
theorem str_pT {f : FD} {s : ByteArray} (h : f.pf = pT s) : s = strOfNums f.text := by rw [pf_text h]; exact (str_sOf s).symm
theorem on_pB {f : FD} {b : Bool} (h : f.pf = pB b) : b = decide (f.n = 1) := by rw [pf_n h]; cases b <;> rfl
/-- The parts put are the fields of the kind. -/
theorem put_parts (m : RQ) (fs : List FD) (k : Nat) (h1 : 1 ≤ k) (h2 : k ≤ 10) (h : fs.map FD.pf = partsR m k) : SameR (putR (firstR k) k fs) (ownK m k) := by
  rcases k10 h1 h2 with rfl | rfl | rfl | rfl | rfl | rfl | rfl | rfl | rfl | rfl
  · obtain ⟨a, b, c, d, e, f, rfl, ha, hb, hc, hd, he, hf⟩ := fs6 h
    exact ⟨rfl, str_pT ha, rfl, rfl, (pf_n hb).symm, (pf_n hc).symm, (pf_n hd).symm, (pf_n he).symm, rfl, rfl, (pf_text hf).symm⟩
  · obtain ⟨a, b, rfl, ha, hb⟩ := fs2 h
    exact ⟨rfl, str_pT ha, str_pT hb, rfl, rfl, rfl, rfl, rfl, rfl, rfl, rfl⟩
  · exact SameR.refl _
  · obtain ⟨a, rfl, ha⟩ := fs1 h
    exact ⟨rfl, str_pT ha, rfl, rfl, rfl, rfl, rfl, rfl, rfl, rfl, rfl⟩
  · obtain ⟨a, rfl, ha⟩ := fs1 h
    exact ⟨rfl, str_pT ha, rfl, rfl, rfl, rfl, rfl, rfl, rfl, rfl, rfl⟩
  · obtain ⟨b, c, d, e, rfl, hb, hc, hd, he⟩ := fs4 h
    exact ⟨rfl, rfl, rfl, rfl, (pf_n hb).symm, (pf_n hc).symm, (pf_n hd).symm, (pf_n he).symm, rfl, rfl, rfl⟩
  · obtain ⟨a, rfl, ha⟩ := fs1 h
    exact ⟨rfl, rfl, rfl, rfl, rfl, rfl, rfl, rfl, on_pB ha, rfl, rfl⟩
  · obtain ⟨a, rfl, ha⟩ := fs1 h
    exact ⟨rfl, str_pT ha, rfl, rfl, rfl, rfl, rfl, rfl, rfl, rfl, rfl⟩
  · obtain ⟨a, rfl, ha⟩ := fs1 h
    exact ⟨rfl, rfl, rfl, rfl, rfl, rfl, rfl, rfl, rfl, (pf_n ha).symm, rfl⟩
  · obtain ⟨a, b, c, d, rfl, ha, hb, hc, hd⟩ := fs4 h
    exact ⟨rfl, str_pT ha, str_pT hc, str_pT hd, rfl, rfl, rfl, rfl, on_pB hb, rfl, rfl⟩
theorem own_pT {f : FD} (hk : f.pf.kind = 4) (ho : ownP f.pf = f.pf) (hb : InB f.text) : pT (strOfNums f.text) = f.pf := by
  have hu := u8i_str hb
  obtain ⟨fk, fn, fA, fc, ft, fB, fd, fl⟩ := f
  have e : FD.pf ⟨fk, fn, fA, fc, ft, fB, fd, fl⟩ = ⟨fk, fn, ft, fl⟩ := rfl
  rw [e] at ho hk ⊢
  dsimp only at hk hu ⊢
  subst hk
  rw [← ho]
  show (⟨4, 0, u8i (strOfNums ft).data.toList, []⟩ : PF) = _
  rw [hu]
  rfl
theorem own_pX {f : FD} (hk : f.pf.kind = 4) (ho : ownP f.pf = f.pf) : (⟨4, 0, f.text, []⟩ : PF) = f.pf := by
  obtain ⟨fk, fn, fA, fc, ft, fB, fd, fl⟩ := f
  have e : FD.pf ⟨fk, fn, fA, fc, ft, fB, fd, fl⟩ = ⟨fk, fn, ft, fl⟩ := rfl
  rw [e] at ho hk ⊢
  dsimp only at hk ⊢
  subst hk
  exact ho
theorem own_pN {f : FD} (hk : f.pf.kind = 3) (ho : ownP f.pf = f.pf) : pN f.n = f.pf := by
  obtain ⟨fk, fn, fA, fc, ft, fB, fd, fl⟩ := f
  have e : FD.pf ⟨fk, fn, fA, fc, ft, fB, fd, fl⟩ = ⟨fk, fn, ft, fl⟩ := rfl
  rw [e] at ho hk ⊢
  dsimp only at hk ⊢
  subst hk
  exact ho
theorem own_pB {f : FD} (hk : f.pf.kind = 2) (ho : ownP f.pf = f.pf) (hf : faultP f.pf = 0) (hn : 0 ≤ f.n) : pB (decide (f.n = 1)) = f.pf := by
  obtain ⟨fk, fn, fA, fc, ft, fB, fd, fl⟩ := f
  have e : FD.pf ⟨fk, fn, fA, fc, ft, fB, fd, fl⟩ = ⟨fk, fn, ft, fl⟩ := rfl
  rw [e] at ho hk hf ⊢
  dsimp only at hk hn ⊢
  subst hk
  have := over_ok (show over fn 1 5 = 0 from hf) (by decide)
  have h01 : fn = 0 ∨ fn = 1 := by omega
  rw [← ho]
  rcases h01 with rfl | rfl <;> rfl
def GoodF (f : FD) : Prop := ownP f.pf = f.pf ∧ faultP f.pf = 0 ∧ 0 ≤ f.n ∧ InB f.text
theorem ks1 {fs : List FD} {a : Int} (h : fs.map (fun f => f.pf.kind) = [a]) : ∃ x, fs = [x] ∧ x.pf.kind = a := by
  match fs, h with
  | [x], h => simp at h; exact ⟨x, rfl, h⟩
theorem ks2 {fs : List FD} {a b : Int} (h : fs.map (fun f => f.pf.kind) = [a, b]) : ∃ x y, fs = [x, y] ∧ x.pf.kind = a ∧ y.pf.kind = b := by
  match fs, h with
  | [x, y], h => simp at h; exact ⟨x, y, rfl, h⟩
theorem ks4 {fs : List FD} {a b c d : Int} (h : fs.map (fun f => f.pf.kind) = [a, b, c, d]) : ∃ x y z u, fs = [x, y, z, u] ∧ x.pf.kind = a ∧ y.pf.kind = b ∧ z.pf.kind = c ∧ u.pf.kind = d := by
  match fs, h with
  | [x, y, z, u], h => simp at h; exact ⟨x, y, z, u, rfl, h⟩
theorem ks6 {fs : List FD} {a b c d e f : Int} (h : fs.map (fun f => f.pf.kind) = [a, b, c, d, e, f]) : ∃ x y z u v s, fs = [x, y, z, u, v, s] ∧ x.pf.kind = a ∧ y.pf.kind = b ∧ z.pf.kind = c ∧ u.pf.kind = d ∧ v.pf.kind = e ∧ s.pf.kind = f := by
  match fs, h with
  | [x, y, z, u, v, s], h => simp at h; exact ⟨x, y, z, u, v, s, rfl, h⟩
/-- What was put is got. -/
theorem parts_put (fs : List FD) (k : Nat) (h1 : 1 ≤ k) (h2 : k ≤ 10) (h : fs.map (fun f => f.pf.kind) = rkinds k) (hg : ∀ f ∈ fs, GoodF f) : fs.map FD.pf = partsR (putR (firstR k) k fs) k := by
  rcases k10 h1 h2 with rfl | rfl | rfl | rfl | rfl | rfl | rfl | rfl | rfl | rfl
  · obtain ⟨a, b, c, d, e, f, rfl, ka, kb, kc, kd, ke, kf⟩ := ks6 h
    have ga := hg a (by simp)
    have gb := hg b (by simp)
    have gc := hg c (by simp)
    have gd := hg d (by simp)
    have ge := hg e (by simp)
    have gf := hg f (by simp)
    show [a.pf, b.pf, c.pf, d.pf, e.pf, f.pf] = [pT (strOfNums a.text), pN b.n, pN c.n, pN d.n, pN e.n, ⟨4, 0, f.text, []⟩]
    rw [own_pT ka ga.1 ga.2.2.2, own_pN kb gb.1, own_pN kc gc.1, own_pN kd gd.1, own_pN ke ge.1, own_pX kf gf.1]
  · obtain ⟨a, b, rfl, ka, kb⟩ := ks2 h
    have ga := hg a (by simp)
    have gb := hg b (by simp)
    show [a.pf, b.pf] = [pT (strOfNums a.text), pT (strOfNums b.text)]
    rw [own_pT ka ga.1 ga.2.2.2, own_pT kb gb.1 gb.2.2.2]
  · match fs, h with
    | [], _ => rfl
  · obtain ⟨a, rfl, ka⟩ := ks1 h
    have ga := hg a (by simp)
    show [a.pf] = [pT (strOfNums a.text)]
    rw [own_pT ka ga.1 ga.2.2.2]
  · obtain ⟨a, rfl, ka⟩ := ks1 h
    have ga := hg a (by simp)
    show [a.pf] = [pT (strOfNums a.text)]
    rw [own_pT ka ga.1 ga.2.2.2]
  · obtain ⟨b, c, d, e, rfl, kb, kc, kd, ke⟩ := ks4 h
    have gb := hg b (by simp)
    have gc := hg c (by simp)
    have gd := hg d (by simp)
    have ge := hg e (by simp)
    show [b.pf, c.pf, d.pf, e.pf] = [pN b.n, pN c.n, pN d.n, pN e.n]
    rw [own_pN kb gb.1, own_pN kc gc.1, own_pN kd gd.1, own_pN ke ge.1]
  · obtain ⟨a, rfl, ka⟩ := ks1 h
    have ga := hg a (by simp)
    show [a.pf] = [pB (decide (a.n = 1))]
    rw [own_pB ka ga.1 ga.2.1 ga.2.2.1]
  · obtain ⟨a, rfl, ka⟩ := ks1 h
    have ga := hg a (by simp)
    show [a.pf] = [pT (strOfNums a.text)]
    rw [own_pT ka ga.1 ga.2.2.2]
  · obtain ⟨a, rfl, ka⟩ := ks1 h
    have ga := hg a (by simp)
    show [a.pf] = [pN a.n]
    rw [own_pN ka ga.1]
  · obtain ⟨a, b, c, d, rfl, ka, kb, kc, kd⟩ := ks4 h
    have ga := hg a (by simp)
    have gb := hg b (by simp)
    have gc := hg c (by simp)
    have gd := hg d (by simp)
    show [a.pf, b.pf, c.pf, d.pf] = [pT (strOfNums a.text), pB (decide (b.n = 1)), pT (strOfNums c.text), pT (strOfNums d.text)]
    rw [own_pT ka ga.1 ga.2.2.2, own_pB kb gb.1 gb.2.1 gb.2.2.1, own_pT kc gc.1 gc.2.2.2, own_pT kd gd.1 gd.2.2.2]
/-- What Encode answers. -/
def encR (m : RQ) : Int × List Int := if 1 ≤ m.kind ∧ m.kind ≤ 10 then if askR m m.kind.toNat ≠ 0 then (askR m m.kind.toNat, []) else writeP (partsR m m.kind.toNat) else (8, [])
/-- The name that goes with it. -/
def encName (m : RQ) : ByteArray := if (encR m).1 = 0 then rname m.kind.toNat else ⟨#[]⟩
/-- The kind of a name. -/
def kindL (l : List UInt8) : Option Nat :=
  if l = rnameL 1 then some 1 else if l = rnameL 2 then some 2 else if l = rnameL 3 then some 3 else if l = rnameL 4 then some 4 else if l = rnameL 5 then some 5 else
  if l = rnameL 6 then some 6 else if l = rnameL 7 then some 7 else if l = rnameL 8 then some 8 else if l = rnameL 9 then some 9 else if l = rnameL 10 then some 10 else none
/-- What Decode answers, of a kind. -/
def DecK (k : Nat) (l : List Int) (m : RQ) (E : Int) : Prop :=
  if (readP (rkinds k) l).1 ≠ 0 then E = (readP (rkinds k) l).1 ∧ m = zeroR
  else ∃ fs : List FD, fs.map FD.pf = (readP (rkinds k) l).2 ∧ if askR (putR (firstR k) k fs) k = 0 then E = 0 ∧ m = putR (firstR k) k fs else E = askR (putR (firstR k) k fs) k ∧ m = zeroR
def DecR (name : ByteArray) (l : List Int) (m : RQ) (E : Int) : Prop :=
  match kindL name.data.toList with
  | none => E = 8 ∧ m = zeroR
  | some k => DecK k l m E
theorem kindL_name (k : Nat) (h1 : 1 ≤ k) (h2 : k ≤ 10) : kindL (rnameL k) = some k := by
  rcases k10 h1 h2 with rfl | rfl | rfl | rfl | rfl | rfl | rfl | rfl | rfl | rfl <;> decide
theorem kindL_s (k : Nat) (h1 : 1 ≤ k) (h2 : k ≤ 10) : kindL (rnameL k ++ [115]) = none := by
  rcases k10 h1 h2 with rfl | rfl | rfl | rfl | rfl | rfl | rfl | rfl | rfl | rfl <;> decide
theorem kindL_range {l : List UInt8} {k : Nat} (h : kindL l = some k) : 1 ≤ k ∧ k ≤ 10 ∧ l = rnameL k := by
  unfold kindL at h
  repeat' (split at h)
  all_goals first
    | (injection h with h; subst h; exact ⟨by decide, by decide, by assumption⟩)
    | cases h
theorem rname_inj {i j : Nat} (h1 : 1 ≤ i) (h2 : i ≤ 10) (g1 : 1 ≤ j) (g2 : j ≤ 10) (h : rnameL i = rnameL j) : i = j := by
  have := kindL_name i h1 h2
  rw [h, kindL_name j g1 g2] at this
  injection this with this
  exact this.symm
theorem dec_zero {k : Nat} {l : List Int} {m : RQ} {E : Int} (h : DecK k l m E) (hE : E ≠ 0) : m = zeroR := by
  unfold DecK at h
  split at h
  · exact h.2
  · obtain ⟨fs, _, h⟩ := h
    split at h
    · exact absurd h.1 hE
    · exact h.2
theorem decR_zero {s : ByteArray} {l : List Int} {m : RQ} {E : Int} (h : DecR s l m E) (hE : E ≠ 0) : m = zeroR := by
  unfold DecR at h
  split at h
  · exact h.2
  · exact dec_zero h hE
theorem encR_ok {m : RQ} (hz : (encR m).1 = 0) : ∃ k : Nat, 1 ≤ k ∧ k ≤ 10 ∧ m.kind = (k : Int) ∧ askR m k = 0 ∧ OkP (partsR m k) ∧ (encR m).2 = (partsR m k).flatMap bytesP ∧ encName m = rname k := by
  have hz0 := hz
  unfold encR at hz
  split at hz
  case isFalse => exact absurd hz (by decide)
  rename_i hk
  split at hz
  · rename_i h0
    exact absurd hz h0
  rename_i h0
  obtain ⟨k, hkk⟩ := Int.eq_ofNat_of_zero_le (show 0 ≤ m.kind by omega)
  have hn : encName m = rname m.kind.toNat := if_pos hz0
  have he : encR m = writeP (partsR m m.kind.toNat) := by unfold encR; rw [if_pos hk, if_neg h0]
  rw [hkk, Int.toNat_natCast] at h0 hz hn he
  have hok : OkP (partsR m k) := by
    apply Classical.byContradiction
    intro hb
    obtain ⟨e, he, hw⟩ := writeP_bad hb
    rw [hw] at hz
    exact he hz
  exact ⟨k, by omega, by omega, hkk, by simpa using h0, hok, by rw [he, writeP_ok hok], hn⟩
theorem encR_bad {m : RQ} (hz : (encR m).1 ≠ 0) : (encR m).2 = [] := by
  unfold encR at hz ⊢
  split
  · rename_i hk
    rw [if_pos hk] at hz
    split
    · rfl
    · rename_i h0
      rw [if_neg h0] at hz
      by_cases ho : OkP (partsR m m.kind.toNat)
      · rw [writeP_ok ho] at hz
        exact absurd rfl hz
      · obtain ⟨e, _, hw⟩ := writeP_bad ho
        rw [hw]
  · rfl
theorem rname_data (k : Nat) : (rname k).data.toList = rnameL k := rfl
/-- What is encoded is decoded, with the fields of its kind. -/
theorem rback_law {m x : RQ} {E : Int} (hn : RNums m) (hz : (encR m).1 = 0) (h : DecR (encName m) (encR m).2 x E) :
    E = 0 ∧ SameR x (ownK m m.kind.toNat) ∧ (encR m).2.length ≤ 33792 := by
  obtain ⟨k, h1, h2, hk, ha, ho, he, hnm⟩ := encR_ok hz
  rw [hnm, he] at h
  unfold DecR at h
  rw [rname_data, kindL_name k h1 h2] at h
  dsimp only at h
  have hb := back_law _ ho (parts_n hn k h1 h2)
  rw [parts_kinds m k h1 h2, parts_own m k h1 h2] at hb
  unfold DecK at h
  rw [hb, if_neg (by simp)] at h
  obtain ⟨fs, e1, h⟩ := h
  have hs := put_parts m fs k h1 h2 e1
  rw [if_pos (by rw [← askR_same hs k h1 h2, ask_own m k h1 h2]; exact ha)] at h
  refine ⟨h.1, ?_, by rw [he]; exact ho.2.2⟩
  rw [h.2, hk, Int.toNat_natCast]
  exact hs
theorem kind_put (k : Nat) (fs : List FD) : (putR (firstR k) k fs).kind = k := by
  unfold putR
  split <;> rfl
/-- What is decoded is encoded again. -/
theorem ragain_law {s : ByteArray} {l : List Int} {m : RQ} (hl : InB l) (hm : l.length ≤ 33792) (h : DecR s l m 0) :
    (encR m).1 = 0 ∧ (encR m).2.length = l.length ∧ encName m = s ∧ SameR m (ownK m m.kind.toNat) := by
  unfold DecR at h
  split at h
  · exact absurd h.1 (by decide)
  rename_i k hr
  obtain ⟨h1, h2, hs⟩ := kindL_range hr
  unfold DecK at h
  split at h
  · rename_i h0
    exact absurd h.1.symm h0
  rename_i h0
  obtain ⟨fs, e1, h⟩ := h
  split at h
  case isFalse => rename_i hq; exact absurd h.1.symm hq
  rename_i hf
  have hm2 := h.2
  have hq := (readP_good (rkinds k) l hl (by omega)).2
  have hown := readP_own (rkinds k) l
  rcases again_law (rkinds k) l hl hm with g | ⟨_, g1, g2, g3, g4⟩
  · exact absurd g.1 h0
  rw [← e1] at g1 g2 g3 g4 hq hown
  have gf : ∀ g ∈ fs, GoodF g := fun g hg => by
    have hy : g.pf ∈ List.map FD.pf fs := List.mem_map_of_mem hg
    exact ⟨hown _ hy, (g3 _ hy).2.2.1, (g3 _ hy).2.2.2.1, (hq _ hy).2⟩
  have hparts := parts_put fs k h1 h2 (by rw [List.map_map] at g1; exact g1) gf
  rw [← hm2] at hparts hf
  have hkind : m.kind = k := by rw [hm2, kind_put]
  have he : encR m = (0, (partsR m k).flatMap bytesP) := by
    unfold encR
    rw [if_pos (by omega), hkind, Int.toNat_natCast, if_neg (by simpa using hf)]
    refine writeP_ok ?_
    rw [← hparts]
    exact g2
  refine ⟨by rw [he], ?_, ?_, ?_⟩
  · rw [he, ← hparts]
    exact g4.len
  · have : encName m = rname m.kind.toNat := if_pos (by rw [he])
    rw [this, hkind, Int.toNat_natCast]
    exact bytes_ext (by rw [rname_data, hs])
  · have := put_parts m fs k h1 h2 hparts
    rw [← hm2] at this
    rw [hkind, Int.toNat_natCast]
    exact this
end Go.Proofs.YtdplnedpbkpgpaaGreatDoor

namespace Go.Proofs.YtdplnedpbkpgpaaGreatDoor
set_option linter.all false
set_option maxRecDepth 100000
open Go.RowKit

/-- A setting. -/
structure TM where
  ch : Nat → Int
  fl : Int
  inn : Int
  out : Int
  mn : Int
  tm : Int
def TM.sc (t : TM) : List SC := [.v (.int .u8 (t.ch 0)), .v (.int .u8 (t.ch 1)), .v (.int .u8 (t.ch 2)), .v (.int .u8 (t.ch 3)), .v (.int .u8 (t.ch 4)), .v (.int .u8 (t.ch 5)), .v (.int .u8 (t.ch 6)), .v (.int .u8 (t.ch 7)), .v (.int .u8 (t.ch 8)), .v (.int .u8 (t.ch 9)), .v (.int .u8 (t.ch 10)), .v (.int .u8 (t.ch 11)), .v (.int .u8 (t.ch 12)), .v (.int .u8 (t.ch 13)), .v (.int .u8 (t.ch 14)), .v (.int .u8 (t.ch 15)), .v (.int .u8 (t.ch 16)), .v (.int .u8 (t.ch 17)), .v (.int .u8 (t.ch 18)), .v (.int .u64 t.fl), .v (.int .u32 t.inn), .v (.int .u32 t.out), .v (.int .i64 t.mn), .v (.int .i64 t.tm)]
def TM.cells (t : TM) : List Value := [.int .u8 (t.ch 0), .int .u8 (t.ch 1), .int .u8 (t.ch 2), .int .u8 (t.ch 3), .int .u8 (t.ch 4), .int .u8 (t.ch 5), .int .u8 (t.ch 6), .int .u8 (t.ch 7), .int .u8 (t.ch 8), .int .u8 (t.ch 9), .int .u8 (t.ch 10), .int .u8 (t.ch 11), .int .u8 (t.ch 12), .int .u8 (t.ch 13), .int .u8 (t.ch 14), .int .u8 (t.ch 15), .int .u8 (t.ch 16), .int .u8 (t.ch 17), .int .u8 (t.ch 18), .int .u64 t.fl, .int .u32 t.inn, .int .u32 t.out, .int .i64 t.mn, .int .i64 t.tm]
def TM.val (t : TM) : Value := .agg #[.int .u8 (t.ch 0), .int .u8 (t.ch 1), .int .u8 (t.ch 2), .int .u8 (t.ch 3), .int .u8 (t.ch 4), .int .u8 (t.ch 5), .int .u8 (t.ch 6), .int .u8 (t.ch 7), .int .u8 (t.ch 8), .int .u8 (t.ch 9), .int .u8 (t.ch 10), .int .u8 (t.ch 11), .int .u8 (t.ch 12), .int .u8 (t.ch 13), .int .u8 (t.ch 14), .int .u8 (t.ch 15), .int .u8 (t.ch 16), .int .u8 (t.ch 17), .int .u8 (t.ch 18), .int .u64 t.fl, .int .u32 t.inn, .int .u32 t.out, .int .i64 t.mn, .int .i64 t.tm]
def isFlagB (op : Int) : Bool := (decide (30 ≤ op) && decide (op ≤ 42)) || ((decide (50 ≤ op) && decide (op ≤ 62)) || ((decide (70 ≤ op) && decide (op ≤ 75)) || (decide (90 ≤ op) && decide (op ≤ 93))))
def bitI (op : Int) : Int := ((2 ^ (op - 30).toNat : Nat) : Int)
/-- A flag is on. -/
def hasI (fl op : Int) : Bool := isFlagB op && (IntKind.u64.wrap (((BitVec.ofInt 64 fl) &&& (BitVec.ofInt 64 (bitI op))).toNat) != 0)
def TM.has (t : TM) (op : Int) : Bool := hasI t.fl op
/-- With a flag on, or off. -/
def setI (fl op : Int) (on : Bool) : Int := if isFlagB op then (if on then IntKind.u64.wrap (((BitVec.ofInt 64 fl) ||| (BitVec.ofInt 64 (bitI op))).toNat) else IntKind.u64.wrap (((BitVec.ofInt 64 fl) &&& ~~~(BitVec.ofInt 64 (bitI op))).toNat)) else fl
def TM.set (t : TM) (op : Int) (on : Bool) : TM := { t with fl := setI t.fl op on }
theorem groups_any (w : World) : Calls Tryz.prog 70 #[] w fun e w' => e = .returned (.agg #[.int .i64 30, .int .i64 42, .int .i64 50, .int .i64 62, .int .i64 70, .int .i64 75, .int .i64 90, .int .i64 93]) ∧ Only [] w w' := by
  refine Hs.enter Tryz.func70 [] [] [] [] (Mem.start0 w) (by kernel_rfl) (by kernel_rfl) ?_
  refine Hs.run1 300 (fun _ => by kernel_rfl) fun b0 => ?_
  exact Hs.ret (v := .agg #[.int .i64 30, .int .i64 42, .int .i64 50, .int .i64 62, .int .i64 70, .int .i64 75, .int .i64 90, .int .i64 93]) Tryz.func70 (by kernel_rfl) fun w' H => ⟨rfl, H.only⟩
theorem flag_step {x y op : Int} {r : Bool} : ((decide (x ≤ op) && decide (op ≤ y)) || r) = if x ≤ op ∧ op ≤ y then true else r := by
  by_cases h1 : x ≤ op <;> by_cases h2 : op ≤ y <;> simp [h1, h2]
theorem isFlag_any (op : Int) (w : World) : Calls Tryz.prog 160 #[.int .i64 op] w fun e w' => e = .returned (.bool (isFlagB op)) ∧ Only [] w w' := by
  have J4 : ¬ ((30 : Int) ≤ op ∧ op ≤ 42) → ¬ ((50 : Int) ≤ op ∧ op ≤ 62) → ¬ ((70 : Int) ≤ op ∧ op ≤ 75) → ¬ ((90 : Int) ≤ op ∧ op ≤ 93) → ∀ u : Nat → Value, Hs Tryz.prog 160 (fun e w' => e = .returned (.bool (isFlagB op)) ∧ Only [] w w') (Tryz.f160).ntmps w [] [] ⟨.no, loopAt Tryz.f160 0, pins [(0, .c (.v (.int .i64 op))), (2, .c (.v (.bool false))), (5, .c (.v (.agg #[.int .i64 30, .int .i64 42, .int .i64 50, .int .i64 62, .int .i64 70, .int .i64 75, .int .i64 90, .int .i64 93]))), (6, .c (.v (.int .i64 4)))] (.vals u), []⟩ := by
    intro g0 g1 g2 g3 u
    refine Hs.run0 300 (fun _ => by kernel_rfl) ?_
    refine Hs.condF (by kernel_rfl) ?_
    refine Hs.run0 300 (fun _ => by kernel_rfl) ?_
    have e : isFlagB op = false := by
      simp only [isFlagB, flag_step, if_neg g0, if_neg g1, if_neg g2]
      simpa using g3
    exact Hs.ret (v := .bool false) Tryz.func160 (by kernel_rfl) fun w' H => ⟨by rw [e], H.only⟩
  have J3 : ¬ ((30 : Int) ≤ op ∧ op ≤ 42) → ¬ ((50 : Int) ≤ op ∧ op ≤ 62) → ¬ ((70 : Int) ≤ op ∧ op ≤ 75) → ∀ u : Nat → Value, Hs Tryz.prog 160 (fun e w' => e = .returned (.bool (isFlagB op)) ∧ Only [] w w') (Tryz.f160).ntmps w [] [] ⟨.no, loopAt Tryz.f160 0, pins [(0, .c (.v (.int .i64 op))), (2, .c (.v (.bool false))), (5, .c (.v (.agg #[.int .i64 30, .int .i64 42, .int .i64 50, .int .i64 62, .int .i64 70, .int .i64 75, .int .i64 90, .int .i64 93]))), (6, .c (.v (.int .i64 3)))] (.vals u), []⟩ := by
    intro g0 g1 g2 u
    refine Hs.run0 300 (fun _ => by kernel_rfl) ?_
    refine Hs.condT (by kernel_rfl) ?_
    refine Hs.run1 300 (fun _ => by kernel_rfl) fun c0 => ?_
    refine Hs.bool 13 (decide ((90 : Int) ≤ op)) (by kernel_rfl) (fun h => ?_) (fun h => ?_)
    · have h1 := of_decide_eq_true h
      refine Hs.rung0 [4] 300 (fun _ => by kernel_rfl) ?_
      refine Hs.condP (op ≤ (93 : Int)) (by kernel_rfl) (fun h2 => ?_) (fun h2 => ?_)
      · have e : isFlagB op = true := by
          simp only [isFlagB, flag_step, if_neg g0, if_neg g1, if_neg g2]
          simp [h1, h2]
        refine Hs.run0 300 (fun _ => by kernel_rfl) ?_
        exact Hs.ret (v := .bool true) Tryz.func160 (by kernel_rfl) fun w' H => ⟨by rw [e], H.only⟩
      · refine Hs.run0 300 (fun _ => by kernel_rfl) ?_
        refine Hs.loop (by kernel_rfl) ?_
        exact Hs.goto (loopAt Tryz.f160 0) [] [] [(0, .c (.v (.int .i64 op))), (2, .c (.v (.bool false))), (5, .c (.v (.agg #[.int .i64 30, .int .i64 42, .int .i64 50, .int .i64 62, .int .i64 70, .int .i64 75, .int .i64 90, .int .i64 93]))), (6, .c (.v (.int .i64 4)))] (by kernel_rfl) (by decide) (by kernel_rfl) (by kernel_rfl) (fun _ => (by kernel_rfl)) (J4 g0 g1 g2 (fun h => by omega))
    · have h1 := of_decide_eq_false h
      refine Hs.rung0 [4] 300 (fun _ => by kernel_rfl) ?_
      refine Hs.condF (by kernel_rfl) ?_
      refine Hs.run0 300 (fun _ => by kernel_rfl) ?_
      refine Hs.loop (by kernel_rfl) ?_
      exact Hs.goto (loopAt Tryz.f160 0) [] [] [(0, .c (.v (.int .i64 op))), (2, .c (.v (.bool false))), (5, .c (.v (.agg #[.int .i64 30, .int .i64 42, .int .i64 50, .int .i64 62, .int .i64 70, .int .i64 75, .int .i64 90, .int .i64 93]))), (6, .c (.v (.int .i64 4)))] (by kernel_rfl) (by decide) (by kernel_rfl) (by kernel_rfl) (fun _ => (by kernel_rfl)) (J4 g0 g1 g2 (fun h => by omega))
  have J2 : ¬ ((30 : Int) ≤ op ∧ op ≤ 42) → ¬ ((50 : Int) ≤ op ∧ op ≤ 62) → ∀ u : Nat → Value, Hs Tryz.prog 160 (fun e w' => e = .returned (.bool (isFlagB op)) ∧ Only [] w w') (Tryz.f160).ntmps w [] [] ⟨.no, loopAt Tryz.f160 0, pins [(0, .c (.v (.int .i64 op))), (2, .c (.v (.bool false))), (5, .c (.v (.agg #[.int .i64 30, .int .i64 42, .int .i64 50, .int .i64 62, .int .i64 70, .int .i64 75, .int .i64 90, .int .i64 93]))), (6, .c (.v (.int .i64 2)))] (.vals u), []⟩ := by
    intro g0 g1 u
    refine Hs.run0 300 (fun _ => by kernel_rfl) ?_
    refine Hs.condT (by kernel_rfl) ?_
    refine Hs.run1 300 (fun _ => by kernel_rfl) fun c0 => ?_
    refine Hs.bool 13 (decide ((70 : Int) ≤ op)) (by kernel_rfl) (fun h => ?_) (fun h => ?_)
    · have h1 := of_decide_eq_true h
      refine Hs.rung0 [4] 300 (fun _ => by kernel_rfl) ?_
      refine Hs.condP (op ≤ (75 : Int)) (by kernel_rfl) (fun h2 => ?_) (fun h2 => ?_)
      · have e : isFlagB op = true := by
          simp only [isFlagB, flag_step, if_neg g0, if_neg g1]
          simp [h1, h2]
        refine Hs.run0 300 (fun _ => by kernel_rfl) ?_
        exact Hs.ret (v := .bool true) Tryz.func160 (by kernel_rfl) fun w' H => ⟨by rw [e], H.only⟩
      · refine Hs.run0 300 (fun _ => by kernel_rfl) ?_
        refine Hs.loop (by kernel_rfl) ?_
        exact Hs.goto (loopAt Tryz.f160 0) [] [] [(0, .c (.v (.int .i64 op))), (2, .c (.v (.bool false))), (5, .c (.v (.agg #[.int .i64 30, .int .i64 42, .int .i64 50, .int .i64 62, .int .i64 70, .int .i64 75, .int .i64 90, .int .i64 93]))), (6, .c (.v (.int .i64 3)))] (by kernel_rfl) (by decide) (by kernel_rfl) (by kernel_rfl) (fun _ => (by kernel_rfl)) (J3 g0 g1 (fun h => by omega))
    · have h1 := of_decide_eq_false h
      refine Hs.rung0 [4] 300 (fun _ => by kernel_rfl) ?_
      refine Hs.condF (by kernel_rfl) ?_
      refine Hs.run0 300 (fun _ => by kernel_rfl) ?_
      refine Hs.loop (by kernel_rfl) ?_
      exact Hs.goto (loopAt Tryz.f160 0) [] [] [(0, .c (.v (.int .i64 op))), (2, .c (.v (.bool false))), (5, .c (.v (.agg #[.int .i64 30, .int .i64 42, .int .i64 50, .int .i64 62, .int .i64 70, .int .i64 75, .int .i64 90, .int .i64 93]))), (6, .c (.v (.int .i64 3)))] (by kernel_rfl) (by decide) (by kernel_rfl) (by kernel_rfl) (fun _ => (by kernel_rfl)) (J3 g0 g1 (fun h => by omega))
  have J1 : ¬ ((30 : Int) ≤ op ∧ op ≤ 42) → ∀ u : Nat → Value, Hs Tryz.prog 160 (fun e w' => e = .returned (.bool (isFlagB op)) ∧ Only [] w w') (Tryz.f160).ntmps w [] [] ⟨.no, loopAt Tryz.f160 0, pins [(0, .c (.v (.int .i64 op))), (2, .c (.v (.bool false))), (5, .c (.v (.agg #[.int .i64 30, .int .i64 42, .int .i64 50, .int .i64 62, .int .i64 70, .int .i64 75, .int .i64 90, .int .i64 93]))), (6, .c (.v (.int .i64 1)))] (.vals u), []⟩ := by
    intro g0 u
    refine Hs.run0 300 (fun _ => by kernel_rfl) ?_
    refine Hs.condT (by kernel_rfl) ?_
    refine Hs.run1 300 (fun _ => by kernel_rfl) fun c0 => ?_
    refine Hs.bool 13 (decide ((50 : Int) ≤ op)) (by kernel_rfl) (fun h => ?_) (fun h => ?_)
    · have h1 := of_decide_eq_true h
      refine Hs.rung0 [4] 300 (fun _ => by kernel_rfl) ?_
      refine Hs.condP (op ≤ (62 : Int)) (by kernel_rfl) (fun h2 => ?_) (fun h2 => ?_)
      · have e : isFlagB op = true := by
          simp only [isFlagB, flag_step, if_neg g0]
          simp [h1, h2]
        refine Hs.run0 300 (fun _ => by kernel_rfl) ?_
        exact Hs.ret (v := .bool true) Tryz.func160 (by kernel_rfl) fun w' H => ⟨by rw [e], H.only⟩
      · refine Hs.run0 300 (fun _ => by kernel_rfl) ?_
        refine Hs.loop (by kernel_rfl) ?_
        exact Hs.goto (loopAt Tryz.f160 0) [] [] [(0, .c (.v (.int .i64 op))), (2, .c (.v (.bool false))), (5, .c (.v (.agg #[.int .i64 30, .int .i64 42, .int .i64 50, .int .i64 62, .int .i64 70, .int .i64 75, .int .i64 90, .int .i64 93]))), (6, .c (.v (.int .i64 2)))] (by kernel_rfl) (by decide) (by kernel_rfl) (by kernel_rfl) (fun _ => (by kernel_rfl)) (J2 g0 (fun h => by omega))
    · have h1 := of_decide_eq_false h
      refine Hs.rung0 [4] 300 (fun _ => by kernel_rfl) ?_
      refine Hs.condF (by kernel_rfl) ?_
      refine Hs.run0 300 (fun _ => by kernel_rfl) ?_
      refine Hs.loop (by kernel_rfl) ?_
      exact Hs.goto (loopAt Tryz.f160 0) [] [] [(0, .c (.v (.int .i64 op))), (2, .c (.v (.bool false))), (5, .c (.v (.agg #[.int .i64 30, .int .i64 42, .int .i64 50, .int .i64 62, .int .i64 70, .int .i64 75, .int .i64 90, .int .i64 93]))), (6, .c (.v (.int .i64 2)))] (by kernel_rfl) (by decide) (by kernel_rfl) (by kernel_rfl) (fun _ => (by kernel_rfl)) (J2 g0 (fun h => by omega))
  have J0 : ∀ u : Nat → Value, Hs Tryz.prog 160 (fun e w' => e = .returned (.bool (isFlagB op)) ∧ Only [] w w') (Tryz.f160).ntmps w [] [] ⟨.no, loopAt Tryz.f160 0, pins [(0, .c (.v (.int .i64 op))), (2, .c (.v (.bool false))), (5, .c (.v (.agg #[.int .i64 30, .int .i64 42, .int .i64 50, .int .i64 62, .int .i64 70, .int .i64 75, .int .i64 90, .int .i64 93]))), (6, .c (.v (.int .i64 0)))] (.vals u), []⟩ := by
    intro  u
    refine Hs.run0 300 (fun _ => by kernel_rfl) ?_
    refine Hs.condT (by kernel_rfl) ?_
    refine Hs.run1 300 (fun _ => by kernel_rfl) fun c0 => ?_
    refine Hs.bool 13 (decide ((30 : Int) ≤ op)) (by kernel_rfl) (fun h => ?_) (fun h => ?_)
    · have h1 := of_decide_eq_true h
      refine Hs.rung0 [4] 300 (fun _ => by kernel_rfl) ?_
      refine Hs.condP (op ≤ (42 : Int)) (by kernel_rfl) (fun h2 => ?_) (fun h2 => ?_)
      · have e : isFlagB op = true := by
          simp only [isFlagB, flag_step]
          simp [h1, h2]
        refine Hs.run0 300 (fun _ => by kernel_rfl) ?_
        exact Hs.ret (v := .bool true) Tryz.func160 (by kernel_rfl) fun w' H => ⟨by rw [e], H.only⟩
      · refine Hs.run0 300 (fun _ => by kernel_rfl) ?_
        refine Hs.loop (by kernel_rfl) ?_
        exact Hs.goto (loopAt Tryz.f160 0) [] [] [(0, .c (.v (.int .i64 op))), (2, .c (.v (.bool false))), (5, .c (.v (.agg #[.int .i64 30, .int .i64 42, .int .i64 50, .int .i64 62, .int .i64 70, .int .i64 75, .int .i64 90, .int .i64 93]))), (6, .c (.v (.int .i64 1)))] (by kernel_rfl) (by decide) (by kernel_rfl) (by kernel_rfl) (fun _ => (by kernel_rfl)) (J1  (fun h => by omega))
    · have h1 := of_decide_eq_false h
      refine Hs.rung0 [4] 300 (fun _ => by kernel_rfl) ?_
      refine Hs.condF (by kernel_rfl) ?_
      refine Hs.run0 300 (fun _ => by kernel_rfl) ?_
      refine Hs.loop (by kernel_rfl) ?_
      exact Hs.goto (loopAt Tryz.f160 0) [] [] [(0, .c (.v (.int .i64 op))), (2, .c (.v (.bool false))), (5, .c (.v (.agg #[.int .i64 30, .int .i64 42, .int .i64 50, .int .i64 62, .int .i64 70, .int .i64 75, .int .i64 90, .int .i64 93]))), (6, .c (.v (.int .i64 1)))] (by kernel_rfl) (by decide) (by kernel_rfl) (by kernel_rfl) (fun _ => (by kernel_rfl)) (J1  (fun h => by omega))
  refine Hs.enter Tryz.func160 [] [] [] [.c (.v (.int .i64 op))] (Mem.start0 w) (by kernel_rfl) (by kernel_rfl) ?_
  refine Hs.run0 300 (fun _ => by kernel_rfl) ?_
  refine Hs.callV (fun w' H => groups_any w') (by kernel_rfl) ?_
  refine Hs.run0 300 (fun _ => by kernel_rfl) ?_
  refine Hs.loop (by kernel_rfl) ?_
  exact Hs.goto (loopAt Tryz.f160 0) [] [] [(0, .c (.v (.int .i64 op))), (2, .c (.v (.bool false))), (5, .c (.v (.agg #[.int .i64 30, .int .i64 42, .int .i64 50, .int .i64 62, .int .i64 70, .int .i64 75, .int .i64 90, .int .i64 93]))), (6, .c (.v (.int .i64 0)))] (by kernel_rfl) (by decide) (by kernel_rfl) (by kernel_rfl) (fun _ => (by kernel_rfl)) J0
theorem flag_lo {op : Int} (h : isFlagB op = true) : 30 ≤ op ∧ op ≤ 93 := by
  simp [isFlagB] at h
  omega
theorem bit_any (op : Int) (h1 : 30 ≤ op) (h2 : op ≤ 93) (w : World) : Calls Tryz.prog 45 #[.int .i64 op] w fun e w' => e = .returned (.int .u64 (bitI op)) ∧ Only [] w w' := by
  refine Hs.enter Tryz.func45 [] [] [] [.c (.v (.int .i64 op))] (Mem.start0 w) (by kernel_rfl) (by kernel_rfl) ?_
  refine Hs.rung0 [] 8 (fun _ => (by kernel_rfl)) ?_
  have e : IntKind.i64.wrap (op - 30) = op - 30 := IntWalk.i64_in _ (by omega)
  have e2 : IntKind.u64.wrap ((1 : Int) * 2 ^ min (op - 30).toNat 64) = bitI op := by
    rw [Nat.min_eq_left (by omega), Int.one_mul]
    unfold bitI
    have h3 : (2 : Int) ^ (op - 30).toNat = ((2 ^ (op - 30).toNat : Nat) : Int) := (Int.natCast_pow 2 _).symm
    have h6 : (op - 30).toNat < 64 := by omega
    have h4 : 2 ^ (op - 30).toNat < 2 ^ 64 := Nat.pow_lt_pow_right (by decide) h6
    rw [h3]
    generalize 2 ^ (op - 30).toNat = q at h4
    have h7 : q < 18446744073709551616 := h4
    have h5 : (q : Int) < 18446744073709551616 := by omega
    show ((q : Int) % (18446744073709551616 : Int)) = _
    exact Int.emod_eq_of_lt (Int.natCast_nonneg q) h5
  refine Hs.bin (op := .shl) (T := 26) (k := .u64) (k' := .i64) (a := 1) (b := IntKind.i64.wrap (op - 30)) (.int .u64 (IntKind.u64.wrap ((1 : Int) * 2 ^ min (IntKind.i64.wrap (op - 30)).toNat 64))) (by kernel_rfl) (fun w => run_shl (by rw [e]; omega) w) ?_
  refine Hs.run0 300 (fun _ => by kernel_rfl) ?_
  exact Hs.ret (v := .int .u64 (IntKind.u64.wrap ((1 : Int) * 2 ^ min (IntKind.i64.wrap (op - 30)).toNat 64))) Tryz.func45 (by kernel_rfl) fun w' H => ⟨by rw [e, e2], H.only⟩
def TM.chr (t : TM) (op : Nat) : Int := if t.ch op == 255 then 0 else t.ch op
def TM.on (t : TM) (op : Nat) : Bool := !(t.ch op == 255)
def TM.is (t : TM) (op : Nat) (c : Int) : Bool := t.on op && c == t.ch op
theorem set_any (t : TM) (op : Int) (on : Bool) (w : World) : Calls Tryz.prog 150 #[t.val, .int .i64 op, .bool on] w fun e w' => e = .returned (t.set op on).val ∧ Only [] w w' := by
  obtain ⟨ch, fl, inn, out, mn, tm⟩ := t
  refine Hs.enter Tryz.func150 [] [] [] [.g (TM.sc ⟨ch, fl, inn, out, mn, tm⟩), .c (.v (.int .i64 op)), .c (.v (.bool on))] (Mem.start0 w) (by kernel_rfl) (by kernel_rfl) ?_
  refine Hs.run2 300 (fun _ => by kernel_rfl) fun b0 b1 => ?_
  refine Hs.callV (fun w' H => isFlag_any op w') (by kernel_rfl) ?_
  refine Hs.run0 300 (fun _ => by kernel_rfl) ?_
  refine Hs.cond (!isFlagB op) (by kernel_rfl) (fun h => ?_) (fun h => ?_)
  · refine Hs.run0 300 (fun _ => by kernel_rfl) ?_
    exact Hs.ret (v := TM.val ⟨ch, fl, inn, out, mn, tm⟩) Tryz.func150 (by kernel_rfl) fun w' H => ⟨by
      have h : isFlagB op = false := by simpa using h
      simp only [TM.set, setI, h, Bool.false_eq_true, if_false], H.only⟩
  have h : isFlagB op = true := by simpa using h
  obtain ⟨h1, h2⟩ := flag_lo h
  refine Hs.run0 300 (fun _ => by kernel_rfl) ?_
  refine Hs.cond on (by kernel_rfl) (fun ho => ?_) (fun ho => ?_)
  · refine Hs.run0 300 (fun _ => by kernel_rfl) ?_
    refine Hs.any [0, 1006] (by kernel_rfl) ?_
    refine Hs.run0 300 (fun _ => by kernel_rfl) ?_
    refine Hs.callV (fun w' H => bit_any op h1 h2 w') (by kernel_rfl) ?_
    refine Hs.run0 300 (fun _ => by kernel_rfl) ?_
    exact Hs.ret (v := TM.val ⟨ch, IntKind.u64.wrap (((BitVec.ofInt 64 fl) ||| (BitVec.ofInt 64 (bitI op))).toNat), inn, out, mn, tm⟩) Tryz.func150 (by kernel_rfl) fun w' H => ⟨by subst ho; simp only [TM.set, setI, h, if_true], H.only⟩
  · refine Hs.run0 300 (fun _ => by kernel_rfl) ?_
    refine Hs.any [0, 1006] (by kernel_rfl) ?_
    refine Hs.run0 300 (fun _ => by kernel_rfl) ?_
    refine Hs.callV (fun w' H => bit_any op h1 h2 w') (by kernel_rfl) ?_
    refine Hs.run0 300 (fun _ => by kernel_rfl) ?_
    exact Hs.ret (v := TM.val ⟨ch, IntKind.u64.wrap (((BitVec.ofInt 64 fl) &&& ~~~(BitVec.ofInt 64 (bitI op))).toNat), inn, out, mn, tm⟩) Tryz.func150 (by kernel_rfl) fun w' H => ⟨by subst ho; simp only [TM.set, setI, h, if_true, Bool.false_eq_true, if_false], H.only⟩
end Go.Proofs.YtdplnedpbkpgpaaGreatDoor

namespace Go.Proofs.YtdplnedpbkpgpaaGreatDoor
set_option linter.all false
set_option maxRecDepth 100000
open Go.RowKit

def byS (st fr : Int) : Int := if isS (IntKind.i64.wrap (st - fr)) then IntKind.i64.wrap (st - fr) else 0
theorem by_any27 (st fr : Int) (w : World) : Calls Tryz.prog 39 #[.int .i64 st, .int .i64 fr] w fun e w' => e = .returned (.int .i64 (byS st fr)) ∧ Only [] w w' := by
  unfold byS
  refine Hs.enter Tryz.func39 [] [] [] [.c (.v (.int .i64 st)), .c (.v (.int .i64 fr))] (Mem.start0 w) (by kernel_rfl) (by kernel_rfl) ?_
  refine Hs.run0 300 (fun _ => by kernel_rfl) ?_
  refine Hs.callV (fun w' H => name_any18 (IntKind.i64.wrap (st - fr)) w') (by kernel_rfl) ?_
  refine Hs.run0 300 (fun _ => by kernel_rfl) ?_
  refine Hs.cond (isS (IntKind.i64.wrap (st - fr))) (by kernel_rfl) (fun h => ?_) (fun h => ?_)
  · rw [if_pos h]
    refine Hs.run0 300 (fun _ => by kernel_rfl) ?_
    exact Hs.ret (v := .int .i64 (IntKind.i64.wrap (st - fr))) Tryz.func39 (by kernel_rfl) fun w' H => ⟨rfl, H.only⟩
  · rw [if_neg (by rw [h]; decide)]
    refine Hs.run0 300 (fun _ => by kernel_rfl) ?_
    exact Hs.ret (v := .int .i64 0) Tryz.func39 (by kernel_rfl) fun w' H => ⟨rfl, H.only⟩
theorem isS_range {n : Int} (h : isS n = true) : 1 ≤ n ∧ n ≤ 28 := by
  unfold isS at h
  simp only [Bool.or_eq_true, Bool.and_eq_true, decide_eq_true_eq] at h
  omega
theorem byS_range (st fr : Int) : 0 ≤ byS st fr ∧ byS st fr ≤ 28 := by
  unfold byS
  split
  · rename_i h
    have := isS_range h
    omega
  · omega
def oursS : ByteArray := ⟨#[64, 112, 97, 114, 108, 111, 117, 114]⟩
def RQ.sc (m : RQ) : List SC := [.v (.int .i64 m.kind), .v (.string m.text), .v (.string m.value), .v (.string m.lang), .v (.int .u32 m.cols), .v (.int .u32 m.rows), .v (.int .u32 m.width), .v (.int .u32 m.height), .v (.slice m.mA m.modes.length m.mc), .v (.bool m.on), .v (.int .u32 m.code)]
def codeS (st : Int) : Int := IntKind.u32.wrap (IntKind.i64.wrap ((BitVec.ofInt 64 st &&& BitVec.ofInt 64 255).toNat))
def sumS (st : Int) : Int := IntKind.i64.wrap (byS st 1000 + byS st 2000)
def endR (st : Int) : RQ := if sumS st == 0 then { zeroR with kind := 9, code := codeS st } else { zeroR with kind := 10, text := (if wireS (sumS st) then (if isS (sumS st) then nameS (sumS st) else ⟨#[]⟩) else (if isS (sumS st) then nameS (sumS st) else ⟨#[]⟩) ++ oursS), on := decide (byS st 2000 > 0) }
theorem nameS_size {n : Int} (h : isS n = true) : (nameS n).size ≤ 5 := by
  obtain ⟨h1, h2⟩ := isS_range h
  rcases c28 h1 h2 with rfl | rfl | rfl | rfl | rfl | rfl | rfl | rfl | rfl | rfl | rfl | rfl | rfl | rfl | rfl | rfl | rfl | rfl | rfl | rfl | rfl | rfl | rfl | rfl | rfl | rfl | rfl | rfl <;> decide
theorem textS_size (n : Int) : (if isS n then nameS n else (⟨#[]⟩ : ByteArray)).size ≤ 5 := by
  split
  · rename_i h; exact nameS_size h
  · decide
theorem run_cat (a b : ByteArray) (T : TypeId) (h : a.size + b.size ≤ 1000000) (w : World) : (Go.binOp .add T (.string a) (.string b)).run Tryz.prog w = .ok (.string (a ++ b)) w := by
  show (Op.stringOp .add a b).run Tryz.prog w = _
  unfold Op.stringOp
  dsimp only
  rw [if_neg (by
    show ¬ ((a.size + b.size : Nat) : Int) > 9223372036854775807
    omega)]
  rfl
theorem end_any27 (st : Int) (w : World) : Calls Tryz.prog 19 #[.int .i64 st] w fun e w' => e = .returned (endR st).val ∧ Only [] w w' := by
  refine Hs.enter Tryz.func19 [] [] [] [.c (.v (.int .i64 st))] (Mem.start0 w) (by kernel_rfl) (by kernel_rfl) ?_
  have ht := textS_size (sumS st)
  unfold endR
  refine Hs.run1 300 (fun _ => by kernel_rfl) fun b0 => ?_
  refine Hs.callV (fun w' H => by_any27 st 1000 w') (by kernel_rfl) ?_
  refine Hs.run0 300 (fun _ => by kernel_rfl) ?_
  refine Hs.callV (fun w' H => by_any27 st 2000 w') (by kernel_rfl) ?_
  refine Hs.run0 300 (fun _ => by kernel_rfl) ?_
  refine Hs.cond (sumS st == 0) (by kernel_rfl) (fun h => ?_) (fun h => ?_)
  · rw [if_pos h]
    refine Hs.run0 300 (fun _ => by kernel_rfl) ?_
    exact Hs.ret (v := RQ.val { zeroR with kind := 9, code := codeS st }) Tryz.func19 (by kernel_rfl) fun w' H => ⟨rfl, H.only⟩
  rw [if_neg (by rw [h]; decide)]
  refine Hs.run0 300 (fun _ => by kernel_rfl) ?_
  refine Hs.callV (fun w' H => name_any18 (sumS st) w') (by kernel_rfl) ?_
  refine Hs.run0 300 (fun _ => by kernel_rfl) ?_
  refine Hs.callV (fun w' H => wire_any18 (sumS st) w') (by kernel_rfl) ?_
  refine Hs.run0 300 (fun _ => by kernel_rfl) ?_
  generalize (if isS (sumS st) then nameS (sumS st) else (⟨#[]⟩ : ByteArray)) = tx at ht ⊢
  refine Hs.cond (!wireS (sumS st)) (by kernel_rfl) (fun h1 => ?_) (fun h1 => ?_)
  · rw [if_neg (by simpa using h1)]
    refine Hs.run0 2 (fun _ => by kernel_rfl) ?_
    refine Hs.opV (.c (.v (.string (tx ++ oursS)))) (by kernel_rfl) rfl (fun w H => run_cat tx oursS 9 (by have : oursS.size = 8 := rfl; omega) w) ?_
    refine Hs.run0 300 (fun _ => by kernel_rfl) ?_
    exact Hs.ret (v := RQ.val { zeroR with kind := 10, text := tx ++ oursS, on := decide (byS st 2000 > 0) }) Tryz.func19 (by kernel_rfl) fun w' H => ⟨rfl, H.only⟩
  · rw [if_pos (by simpa using h1)]
    refine Hs.run0 300 (fun _ => by kernel_rfl) ?_
    exact Hs.ret (v := RQ.val { zeroR with kind := 10, text := tx, on := decide (byS st 2000 > 0) }) Tryz.func19 (by kernel_rfl) fun w' H => ⟨rfl, H.only⟩
end Go.Proofs.YtdplnedpbkpgpaaGreatDoor

namespace Go.Proofs.YtdplnedpbkpgpaaGreatDoor
set_option linter.all false
set_option maxRecDepth 100000
open Go.RowKit

/-- A program, as far as its name. -/
structure PR where
  n : ByteArray
  A : Option Addr
  c : Nat
  k : Nat
def cPr (x : PR) : List Value := [.string x.n, .slice x.A x.k x.c]
theorem cPr_len (x : PR) : (cPr x).length = 2 := rfl
def PR.sc (x : PR) : List SC := [.v (.string x.n), .v (.slice x.A x.k x.c)]
theorem elemPr : ElemT Tryz.prog 47 81 2 (Tryz.prog.bytesOf 81) := elemT_of (z := .agg #[.string ⟨#[]⟩, .slice none 0 0]) (by kernel_rfl) (by kernel_rfl) (by decide) (by decide)
theorem idxS_app (nm : ByteArray) (r : List ByteArray) : ∀ (l : List ByteArray) (i : Int), (∀ s ∈ l, (s.toList == nm.toList) = false) → idxS nm (l ++ r) i = idxS nm r (i + (l.length : Int))
  | [], i, _ => by simp
  | s :: l, i, h => by
    have h1 := h s List.mem_cons_self
    rw [List.cons_append, idx_no (by rw [← h1]; exact Bool.beq_comm), idxS_app nm r l (i + 1) fun x hx => h x (List.mem_cons_of_mem _ hx), List.length_cons]
    congr 1
    omega
def names (ps : List PR) : List ByteArray := ps.map PR.n
def findI (nm : ByteArray) (ps : List PR) : Int := idxS nm (names ps) 0
def findFV (b : Nat) : Value := .func (.func 152) #[] #[.pointer (some ⟨b, 0, none⟩)]
set_option maxHeartbeats 4000000 in
theorem indexP_any (nm : ByteArray) (b : Nat) (A : Option Addr) (c : Nat) (ps : List PR) (w : World) (h : Blk w b 9 [.string nm]) (hr : RdX cPr w A ps) (hl : ps.length ≤ maxLen) : Calls Tryz.prog 151 #[.slice A ps.length c, findFV b] w fun e w' => e = .returned (.int .i64 (findI nm ps)) ∧ Only [] w w' := by
  have J : ∀ (d i : Nat), ps.length - i = d → i ≤ ps.length → (∀ x ∈ ps.take i, (x.n.toList == nm.toList) = false) → ∀ (u : Nat → Value), Hs Tryz.prog 151 (fun e w' => e = .returned (.int .i64 (findI nm ps)) ∧ Only [] w w') (Tryz.f151).ntmps w [] [b] ⟨.no, loopAt Tryz.f151 0, pins [(0, .c (.v (.slice A ps.length c))), (1, .c (.v (findFV b))), (7, .c (.v (.int .i64 ps.length))), (8, .c (.v (.int .i64 i)))] (.vals u), [.b false 9 [.v (.string nm)]]⟩ := by
    intro d
    induction d with
    | zero =>
      intro i hd hi hno u
      obtain rfl : i = ps.length := by omega
      rw [List.take_length] at hno
      have e : findI nm ps = -1 := by
        unfold findI
        have := idxS_app nm [] (names ps) 0 (fun s hs => by
          obtain ⟨x, hx, rfl⟩ := List.mem_map.1 hs
          exact hno x hx)
        rw [List.append_nil] at this
        rw [this]
        rfl
      rw [e]
      refine Hs.run0 300 (fun _ => by kernel_rfl) ?_
      refine Hs.condP ((ps.length : Int) < (ps.length : Int)) (by kernel_rfl) (fun h => by omega) (fun _ => ?_)
      refine Hs.run0 300 (fun _ => by kernel_rfl) ?_
      exact Hs.ret (v := .int .i64 (-1)) Tryz.func151 (by kernel_rfl) fun w' H => ⟨rfl, H.only⟩
    | succ d ih =>
      intro i hd hi hno u
      have hil : i < ps.length := by omega
      obtain ⟨x, hx⟩ : ∃ x, ps[i]? = some x := ⟨_, List.getElem?_eq_getElem hil⟩
      obtain ⟨ab, aoff, hA, _, _⟩ := hr (by omega)
      have hih := fun h u => ih (i + 1) (by omega) (by omega) h u
      clear ih
      rw [hA] at hih hr ⊢
      refine Hs.run0 300 (fun _ => by kernel_rfl) ?_
      refine Hs.condP ((i : Int) < (ps.length : Int)) (by kernel_rfl) (fun _ => ?_) (fun h => by omega)
      refine Hs.run0 300 (fun _ => by kernel_rfl) ?_
      refine Hs.idx (b := ab) (off := aoff) (len := ps.length) (c := c) (i := i) elemPr hil (by kernel_rfl) ?_
      refine Hs.ldx (cf := cPr) (size := 2) (E := 81) (b := ab) (off := aoff) (i := i) (l := ps) (x := x) cPr_len (.g x.sc) (by kernel_rfl) (fun w' H => hr.only H.only) hx (by kernel_rfl) (by kernel_rfl) rfl (by kernel_rfl) ?_
      refine Hs.inl Tryz.func152 [.g x.sc, .c (.p 0 0)] (by kernel_rfl) (by kernel_rfl) ?_
      refine Hs.run1 300 (fun _ => by kernel_rfl) fun b2 => ?_
      refine Hs.retI Tryz.func152 (by kernel_rfl) (by kernel_rfl) (by kernel_rfl) ?_
      refine Hs.run0 300 (fun _ => by kernel_rfl) ?_
      refine Hs.cond (x.n.toList == nm.toList) (by kernel_rfl) (fun h1 => ?_) (fun h1 => ?_)
      · have e : findI nm ps = i := by
          unfold findI
          have e2 : names ps = names (ps.take i) ++ (x.n :: names (ps.drop (i + 1))) := by
            have e3 : ps = ps.take i ++ x :: ps.drop (i + 1) := by
              have h3 := List.drop_eq_getElem_cons hil
              rw [List.getElem?_eq_getElem hil] at hx
              injection hx with hx
              rw [hx] at h3
              rw [← h3, List.take_append_drop]
            unfold names
            rw [← List.map_cons, ← List.map_append, ← e3]
          rw [e2, idxS_app nm _ _ 0 (fun s hs => by
            obtain ⟨y, hy, rfl⟩ := List.mem_map.1 hs
            exact hno y hy), idx_yes (by rw [← h1]; exact Bool.beq_comm)]
          unfold names
          rw [List.length_map, List.length_take]
          omega
        rw [e]
        refine Hs.run0 300 (fun _ => by kernel_rfl) ?_
        exact Hs.ret (v := .int .i64 i) Tryz.func151 (by kernel_rfl) fun w' H => ⟨rfl, H.only⟩
      · refine Hs.run0 300 (fun _ => by kernel_rfl) ?_
        refine Hs.slot 8 (.c (.v (.int .i64 (i + 1 : Nat)))) rfl ((by kernel_rfl : _ = Value.int .i64 (IntKind.i64.wrap ((i : Int) + 1))).trans (wrap_nextJ hl)) ?_
        refine Hs.loop (by kernel_rfl) ?_
        exact Hs.goto (loopAt Tryz.f151 0) [0] [.b false 9 [.v (.string nm)]] [(0, .c (.v (.slice (some ⟨ab, aoff, none⟩) ps.length c))), (1, .c (.v (findFV b))), (7, .c (.v (.int .i64 ps.length))), (8, .c (.v (.int .i64 (i + 1 : Nat))))] (by kernel_rfl) (by decide) (by kernel_rfl) (by kernel_rfl) (fun _ => (by kernel_rfl)) (fun u => hih (by
          rw [List.take_add_one, hx]
          intro y hy
          rcases List.mem_append.1 hy with hy | hy
          · exact hno y hy
          · rw [Option.mem_toList] at hy
            injection hy with hy
            subst hy
            exact h1) u)
  refine Hs.enter Tryz.func151 [] [b] [.b false 9 [.v (.string nm)]] [.c (.v (.slice A ps.length c)), .c (.v (findFV b))] (Mem.rdB1 w b h) (by kernel_rfl) (by kernel_rfl) ?_
  refine Hs.run0 300 (fun _ => by kernel_rfl) ?_
  refine Hs.loop (by kernel_rfl) ?_
  exact Hs.goto (loopAt Tryz.f151 0) [0] [.b false 9 [.v (.string nm)]] [(0, .c (.v (.slice A ps.length c))), (1, .c (.v (findFV b))), (7, .c (.v (.int .i64 ps.length))), (8, .c (.v (.int .i64 (0 : Nat))))] (by kernel_rfl) (by decide) (by kernel_rfl) (by kernel_rfl) (fun _ => (by kernel_rfl)) (fun u => J ps.length 0 (by omega) (by omega) (by simp) u)
def findN (nm : ByteArray) (ps : List PR) : Int := if 0 > findI nm ps then 0 else findI nm ps
def findB (nm : ByteArray) (ps : List PR) : Bool := decide (findI nm ps ≥ 0)
theorem find_any27 (nm : ByteArray) (A : Option Addr) (c : Nat) (ps : List PR) (w : World) (hr : RdX cPr w A ps) (hl : ps.length ≤ maxLen) : Calls Tryz.prog 137 #[.slice A ps.length c, .string nm] w fun e w' => e = .returned (.tuple #[.int .i64 (findN nm ps), .bool (findB nm ps)]) ∧ Only [] w w' := by
  refine Hs.enter Tryz.func137 [] [] [] [.c (.v (.slice A ps.length c)), .c (.v (.string nm))] (Mem.start0 w) (by kernel_rfl) (by kernel_rfl) ?_
  refine Hs.run1 300 (fun _ => by kernel_rfl) fun b0 => ?_
  refine Hs.callV (fun w' H => indexP_any nm b0 A c ps w' (H.at (wr := true) (T := 9) (cs := [.v (.string nm)]) 0 (by kernel_rfl)) (hr.only H.only) hl) (by kernel_rfl) ?_
  refine Hs.run0 300 (fun _ => by kernel_rfl) ?_
  exact Hs.ret (v := .tuple #[.int .i64 (findN nm ps), .bool (findB nm ps)]) Tryz.func137 (by kernel_rfl) fun w' H => ⟨rfl, H.only⟩
/-- A variable. -/
structure VR where
  n : ByteArray
  v : ByteArray
def cVar (x : VR) : List Value := [.string x.n, .string x.v]
theorem cVar_len (x : VR) : (cVar x).length = 2 := rfl
theorem cVar_one (x : VR) : ∀ u ∈ cVar x, u.oneCell' = true := by
  intro u hu
  simp only [cVar, List.mem_cons, List.not_mem_nil, or_false] at hu
  rcases hu with rfl | rfl <;> rfl
def VR.sc (x : VR) : List SC := [.v (.string x.n), .v (.string x.v)]
theorem elemVr : ElemT Tryz.prog 39 59 2 (Tryz.prog.bytesOf 59) := elemT_of (z := .agg #[.string ⟨#[]⟩, .string ⟨#[]⟩]) (by kernel_rfl) (by kernel_rfl) (by decide) (by decide)
theorem by_vr : Tryz.prog.bytesOf 59 = 32 := by kernel_rfl
def OwnV (l : List VR) (w : World) (v : Option Addr → Nat → Value) : Ending → World → Prop := fun e w' => ∃ A cap, e = .returned (v A cap) ∧ Only [] w w' ∧ OwnX cVar 59 2 w' w.heap.size (.slice A l.length cap) l
theorem cloneV_any (l : List VR) (A : Option Addr) (cap : Nat) (w : World) (hr : RdX cVar w A l) (hf : l.length ≤ 1000000000000) : Calls Tryz.prog 27 #[.slice A l.length cap] w (OwnV l w fun A cap => .slice A l.length cap) := by
  have hlen : l.length ≤ maxLen := by unfold maxLen; omega
  cases A with
  | none =>
    have hl0 : l = [] := by
      cases l with
      | nil => rfl
      | cons a r => obtain ⟨b, off, e, _⟩ := hr (by simp); cases e
    subst hl0
    refine Hs.enter Tryz.func27 [] [] [] [.c (.v (.slice none 0 cap))] (Mem.start0 w) (by kernel_rfl) (by kernel_rfl) ?_
    refine Hs.run0 300 (fun _ => by kernel_rfl) ?_
    refine Hs.condT (by kernel_rfl) ?_
    refine Hs.run0 300 (fun _ => by kernel_rfl) ?_
    exact Hs.ret (v := .slice none 0 0) Tryz.func27 (by kernel_rfl) fun w' H => ⟨none, 0, rfl, H.only, ownX_nil⟩
  | some a =>
    refine Hs.enter Tryz.func27 [] [] [] [.c (.v (.slice (some a) l.length cap))] (Mem.start0 w) (by kernel_rfl) (by kernel_rfl) ?_
    refine Hs.run0 300 (fun _ => by kernel_rfl) ?_
    refine Hs.condF (by kernel_rfl) ?_
    refine Hs.run1 300 (fun _ => by kernel_rfl) fun b0 => ?_
    refine Hs.litX (ty := 39) (c := cap) 0 elemVr l l.length rfl cVar_one cVar_len (by kernel_rfl) (by kernel_rfl) (by kernel_rfl) (fun w' H => hr.only H.only) hlen (by rw [by_vr]; omega) fun A' cap' h1 h2 => ?_
    refine Hs.run0 300 (fun _ => by kernel_rfl) ?_
    exact Hs.ret (v := .slice A' l.length cap') Tryz.func27 (by kernel_rfl) fun w' H => ⟨A', cap', rfl, H.only, H.fresh 0 rfl (by kernel_rfl)⟩
end Go.Proofs.YtdplnedpbkpgpaaGreatDoor

namespace Go.Proofs.YtdplnedpbkpgpaaGreatDoor
set_option linter.all false
set_option maxRecDepth 100000
open Go.RowKit

/-- The operation i, which stands under a guard that is met. -/
def semAtG (ge : List Nat) (i : Nat) (n : Nat) (β : List Nat) (m : SM) : Option (Sem Next × List Nat) := match m.r with
  | .any ops (_ + 1) lm rd => match ops[i]? with
    | some o => match gTake n ge ops m.sl o with
      | some true => match (rdyL lm ops.toList 0).contains i && (freeL ops lm i o ops.toList 0 && reachB ops lm rd i) with
        | true => some (execOp (fun x => (evS n m.sl x).den β) o, rdE ops lm rd)
        | false => none
      | _ => none
    | none => none
  | _ => none
section
variable {P : Program} {f : FuncId} {R : Ending → World → Prop} {n : Nat} {w0 : World} {L : List Nat} {β : List Nat} {m : SM}
theorem Hs.takeVG (ge : List Nat) (i : Nat) {s : Sem Value} {rd : List Nat} (v : SV) (hs : semAtG ge i n β m = some (valS s, rd)) (hv : v.wf m.hp.length = true) (h : ∀ w, IR β m.hp rd w → s.run P w = .ok (v.den β) w) (k : Hs P f R n w0 L β (takeM i v m)) : Hs P f R n w0 L β m := by
  refine ⟨fun w H W => ?_⟩
  have hI : ∀ rd, IR β m.hp rd w := fun _ k _ h hh => H.lies k h hh
  obtain ⟨r, todo, sl, hp⟩ := m
  unfold semAtG at hs
  dsimp only at hs
  split at hs
  · rename_i ops fuel lm rd'
    split at hs
    · rename_i o ho
      split at hs
      · rename_i hg
        split at hs
        · rename_i hcond
          injection hs with hs
          injection hs with hs1 hs2
          subst hs2
          simp only [Bool.and_eq_true] at hcond
          obtain ⟨hmem, hfree, hrb⟩ := hcond
          intro hcl hlm hns
          have hil : i < ops.size := (Array.getElem?_eq_some_iff.1 ho).1
          have hready : i ∈ Region.ready .any ops (listedOf ops.size lm) := by rw [rdy_spec hlm]; simpa using hmem
          have hcl' : Closed .any ops (listedOf ops.size (setBit lm i)) := by rw [← listed_set hil]; exact hcl.set hready
          have g := k.go w H (by
            simp only [SM.wf, takeM, Bool.and_eq_true]
            exact ⟨putS_wf (SM.wf_sl W) hv, SM.wf_hp W⟩)
          have g2 := g hcl' (hlm.set hil) hns
          simp only [takeM, ho, Option.bind_some] at g2
          have hap : ∀ j oj, ops[j]? = some oj → j ≠ i → (listedOf ops.size lm).getD j true = false → (∀ e ∈ oj.after, Region.binds .any e = true → e.on ≠ i) → o.apart ops oj = true := fun j oj hj hne hun hno => by
            refine freeL_spec ops.toList 0 hfree j oj (by simpa using hj) ?_ (by simpa using hne) hno
            rw [Nat.zero_add]; exact (listed_false.1 hun).2
          have g3 : wpAnyE P .any ops (QQ P f R todo) (IR β hp (rdsOf rd')) (esOf rd') fuel ((listedOf ops.size lm).setIfInBounds i true) ((fr n β sl).put o.dst (v.den β)) w := by
            rw [listed_set hil, fr_put]; exact g2
          have hyld : ∀ w', IR β hp (rdE ops lm rd') w' → YieldsAt P ops w' o (v.den β) (fr n β sl) := fun w' hI' => .inl ⟨gTake_spec hg, .inl (by
            rw [fr_eval, hs1]; simp only [valS, Sem.run_bind, h w' hI', Result.andThen_ok, Sem.run_pure])⟩
          unfold rdE at hyld
          cases hb : hitB ops lm rd' with
          | true =>
            rw [hb] at hyld
            refine wpAnyE_hit _ _ _ _ (not_noE hb) ?_
            exact takeE (v := v.den β) ho (Region.noSelect_spec hns) (fun c a w hp => by cases hp.1) 0 (fun e he => by cases he) fuel _ _ w hcl (fun e he => by cases he) trivial hap hready (fun w' _ => hyld w' (fun k hk => by cases hk)) (wpAnyE_true _ _ _ _ g3)
          | false =>
            rw [hb] at hyld
            unfold reachB at hrb
            rw [hb, Bool.false_or] at hrb
            exact takeE (v := v.den β) ho (Region.noSelect_spec hns) (fun c a w hp => by cases hp.1) ops.size (fun e he => List.all_eq_true.1 hrb e he) fuel _ _ w hcl (noE_of hb) (hI _) hap hready (fun w' hI' => hyld w' hI') g3
        · cases hs
      · cases hs
    · cases hs
  · cases hs
variable {tS E size bytes : Nat}
theorem Hs.takeIdxG (ge : List Nat) (j : Nat) (ht : ElemT P tS E size bytes) {rd : List Nat} {b off len c i : Nat} (hi : i < len) (hs : semAtG ge j n β m = some (valS (Instr.indexAt tS (.slice (some ⟨b, off, none⟩) len c) (.int .i64 i)), rd)) (h : Hs P f R n w0 L β (takeM j (.c (.v (.pointer (some ⟨b, off + i * size, none⟩)))) m)) : Hs P f R n w0 L β m :=
  Hs.takeVG ge j (.c (.v (.pointer (some ⟨b, off + i * size, none⟩)))) hs rfl (fun w _ => run_idx ht hi w) h
end
end Go.Proofs.YtdplnedpbkpgpaaGreatDoor

namespace Go.Proofs.YtdplnedpbkpgpaaGreatDoor
set_option linter.all false
set_option maxRecDepth 100000
open Go.RowKit

section
variable {α : Type} {cf : α → List Value}
theorem rdX_st {A : Option Addr} {l : List α} (w w' : World) (h1 : ∀ a, A = some a → w'.heap[a.block]? = w.heap[a.block]?) (h2 : w.heap.size ≤ w'.heap.size) (h : RdX cf w A l) : RdX cf w' A l := fun h0 => by
  obtain ⟨b, off, rfl, hlt, hc⟩ := h h0
  exact ⟨b, off, rfl, by omega, fun j u hj => (World.cell?_of_block (w := w) (show w'.heap[b]? = w.heap[b]? from h1 _ rfl)).trans (hc j u hj)⟩
/-- A slice that is handed in. -/
def outB (cf : α → List Value) (ab ao : Nat) (l : List α) : HB := .q false (some ⟨ab, ao, none⟩) (fun w => RdX cf w (some ⟨ab, ao, none⟩) l) (fun w w' h1 h2 h => rdX_st w w' h1 h2 h)
theorem Mem.out (w : World) (ab ao : Nat) (l : List α) (h : RdX cf w (some ⟨ab, ao, none⟩) l) (h0 : 0 < l.length) : Mem w [] [ab] [outB cf ab ao l] w :=
  Mem.start _ _ _ _ rfl (fun k h' hk => by
    cases k with
    | zero =>
      simp at hk; subst hk
      refine ⟨h, fun a ha => ?_⟩
      obtain ⟨b, off, e, hb, _⟩ := h h0
      injection e with e
      injection ha with ha
      subst ha
      injection e with e1
      subst e1
      exact hb
    | succ k => simp at hk) (fun k h' x hk hw _ => by
    cases k with
    | zero => simp at hk; subst hk; cases hw
    | succ k => simp at hk) (fun i j hi hj x ei ej _ _ => by
    cases i with
    | zero =>
      cases j with
      | zero => rfl
      | succ j => simp at ej
    | succ i => simp at ei)
end
section
variable {P : Program} {f : FuncId} {R : Ending → World → Prop} {n : Nat} {w0 : World} {L : List Nat} {β : List Nat} {m : SM} {α : Type} {cf : α → List Value} {size : Nat}
/-- A cell of a slice that is handed in, in a region that draws. -/
theorem Hs.takeOut (j k : Nat) (hcl : ∀ x, (cf x).length = size) {E' : Nat} {rd : List Nat} {ab ao i c : Nat} {l : List α} {x : α} (v : Value) (hs : semAt j n β m = some (valS (Instr.loadAt E' (.pointer (some ⟨ab, ao + i * size + c, none⟩))), rd)) (hk : m.hp[k]? = some (outB cf ab ao l)) (hkr : rd.contains k = true) (hx : l[i]? = some x) (hv : (cf x)[c]? = some v) (ha : aggB P E' = some false)
    (h : Hs P f R n w0 L β (takeM j (.c (.v v)) m)) : Hs P f R n w0 L β m :=
  Hs.takeV j (.c (.v v)) hs rfl (fun w hI => by
    have hQ : HB.lies w β (nm β k) (outB cf ab ao l) := hI k (by simpa using hkr) _ hk
    exact run_ldc ha (rdX_cell hcl hQ.1 hx hv)) h
end
end Go.Proofs.YtdplnedpbkpgpaaGreatDoor

namespace Go.Proofs.YtdplnedpbkpgpaaGreatDoor
set_option linter.all false
set_option maxRecDepth 100000
open Go.RowKit

/-- What a call has made: a block, and things that stay, whatever of the block turns. -/
def NewB (w : World) (T : TypeId) {X : Type} (cs : X → List Value) (Q : X → World → Prop) : Ending → World → Prop := fun e w' => ∃ g x, e = .returned (.pointer (some ⟨g, 0, none⟩)) ∧ Only [] w w' ∧ w.heap.size ≤ g ∧ Blk w' g T (cs x) ∧ ∀ L : List Nat, (∀ y ∈ L, y < w.heap.size ∨ y = g) → Keeps w' L (Q x)
section
variable {P : Program} {f : FuncId} {R : Ending → World → Prop} {n : Nat} {w0 w00 : World} {L : List Nat} {β : List Nat} {m : SM} {D1 : World → Prop}
/-- A block of ours, at the end. -/
theorem Nx.newB {w w1 w' : World} {L1 β : List Nat} {hp : List HB} {D1 : World → Prop} {X : Type} {cs : X → List Value} {Q : X → World → Prop} (C : Nx w w1 L1 D1) (H : Mem w1 L1 β hp w') (k : Nat) {g : Nat} {T : TypeId} {sc : List SC} (x : X) (hβ : β[k]? = some g) (hk : hp[k]? = some (.b true T sc)) (hd : dens β sc = cs x) (hQ : ∀ w, D1 w → Q x w) : NewB w T cs Q (.returned (.pointer (some ⟨g, 0, none⟩))) w' := by
  have hg : g ∈ wrN β hp := wrN_mem.2 ⟨k, _, g, hk, hβ, rfl, rfl⟩
  refine ⟨g, x, rfl, C.only H, ?_, ?_, fun L hL => ?_⟩
  · rcases Nx.key H g hg with h | h
    · exact C.mem g h
    · have := C.size; omega
  · have := H.at k hk
    rw [nm_get hβ, hd] at this
    exact this
  · refine (C.fin H L fun y hy => ?_).imp hQ
    rcases hL y hy with h | h
    · exact .inl h
    · rw [h]; exact .inr hg
/-- A call that makes a block, and things that stay. -/
theorem Hs.callB {X : Type} (k : Nat) {T : TypeId} {cs : X → List Value} (sc : X → List SC) {Q : X → World → Prop} {F : FuncId} {args : Array Value} (C : Nx w00 w0 L D1)
    (hC : ∀ w, Mem w0 L β m.hp w → Calls P F args w (NewB w T cs Q)) (hd : ∀ β x, dens β (sc x) = cs x) (hsw : ∀ x j, (sc x).all (SC.wf j) = true)
    (hc : callOf P n β m = some (F, args)) (hrd : rdOf m = []) (hk : Nat.beq m.hp.length k = true)
    (h : ∀ g x w1 L1, Nx w00 w1 L1 (fun w => Q x w ∧ D1 w) → Hs P f R n w1 L1 (β ++ [g]) (m.put (dstOf m) (.c (.p k 0)) (m.hp ++ [.b true T (sc x)]))) : Hs P f R n w0 L β m := by
  have hk := Nat.eq_of_beq_eq_true hk
  refine ⟨fun w H W => ?_⟩
  unfold callOf at hc
  split at hc
  · rename_i o ho
    split at hc
    · rename_i hg
      split at hc
      · rename_i F' args' hp
        injection hc with hc
        injection hc with h1 h2
        subst h1; subst h2
        have hd' : dstOf m = o.dst := by unfold dstOf; rw [ho]
        rw [hd'] at h
        refine Gs.op ho hg ?_
        unfold Oper.wp
        rw [fr_eval, pureOut_run P _ _ hp w]
        refine Calls.mono (hC w H) ?_
        rintro e w' ⟨g, x, rfl, O, hge, hB, q⟩
        have hw := SM.wf_hp W
        have hnm : nm (β ++ [g]) β.length = g := nm_last β g
        have H' : Mem w0 L (β ++ [g]) (m.hp ++ [.b true T (sc x)]) w' := by
          refine H.push (h := .b true T (sc x)) (by rw [H.len]; exact hw) O (fun y hy => ?_) ?_
          · injection hy with hy; omega
          · show Blk w' g T (dens (β ++ [g]) (sc x))
            rw [hd]; exact hB
        have key := Nx.key H'
        have N : Nx w00 w' (wrN (β ++ [g]) (m.hp ++ [.b true T (sc x)])) (fun w => Q x w ∧ D1 w) := by
          refine ⟨fun w3 O3 => C.back w3 (H'.back w3 O3), fun y hy => ?_, Nat.le_trans C.size H'.only.size, fun L' hL' => ?_⟩
          · rcases key y hy with h | h
            · exact C.mem y h
            · have := C.size; omega
          · refine (q _ fun y hy => ?_).and ?_
            · rcases List.mem_append.1 hy with h | h
              · have := hL' y h; have := C.size; have := H.only.size; exact .inl (by omega)
              · obtain ⟨k, hb, b, h1, h2, h3, h4⟩ := wrN_mem.1 h
                rcases Nat.lt_or_ge k m.hp.length with hk | hk
                · rw [List.getElem?_append_left hk] at h1
                  rw [List.getElem?_append_left (by rw [H.len]; exact hk)] at h2
                  exact .inl (HB.lies_lt (H.lies k hb h1) (by rw [nm_get h2]; exact h4))
                · rw [List.getElem?_append_right hk] at h1
                  rw [List.getElem?_append_right (by rw [H.len]; exact hk), H.len] at h2
                  cases hkk : k - m.hp.length with
                  | zero =>
                    rw [hkk] at h1 h2
                    simp at h1 h2
                    subst h1; subst h2
                    injection h4 with h4
                    exact .inr h4.symm
                  | succ j => rw [hkk] at h1; simp at h1
            · refine (C.keep L' hL').goN H'.only (fun y hy => .inl (by simp [hy])) (fun y hy => ?_)
              rcases List.mem_append.1 hy with h | h
              · exact .inl (by simp [h])
              · rcases key y h with h | h
                · exact .inl (by simp [h])
                · exact .inr h
        have hval : (Value.pointer (some ⟨g, 0, none⟩)) = (SV.c (.p k 0)).den (β ++ [g]) := by
          show _ = Value.pointer (some ⟨nm (β ++ [g]) k, 0, none⟩)
          rw [← hk, ← H.len, hnm]
        refine ⟨β ++ [g], putS o.dst (SV.c (SC.p k 0)) m.sl, m.hp ++ [HB.b true T (sc x)], ?_, fun w2 hI => ?_, (h g x w' _ N).go w' H'.rebase ?_⟩
        · rw [hval, ← fr_app n [g] (by rw [H.len]; exact SM.wf_sl W)]
          exact fr_put n (β ++ [g]) m.sl o.dst (.c (.p k 0))
        · rw [hrd]; intro i hi; cases hi
        · simp only [SM.wf, SM.put, Bool.and_eq_true]
          refine ⟨?_, ?_⟩
          · rw [List.length_append]; exact putS_wf (Slots.wf_mono (by omega) (SM.wf_sl W)) (by simp [SV.wf, SC.wf, ← hk, blt_spec])
          · rw [List.length_append]
            refine List.all_eq_true.2 fun y hy => ?_
            rcases List.mem_append.1 hy with hy | hy
            · have h1 := List.all_eq_true.1 hw y hy
              cases y with
              | b _ _ cs => exact List.all_eq_true.2 fun u hu => SC.wf_mono (by omega) (List.all_eq_true.1 h1 u hu)
              | _ => rfl
            · rw [List.mem_singleton.1 hy]; exact hsw x _
      · cases hc
    · cases hc
  · cases hc
end
end Go.Proofs.YtdplnedpbkpgpaaGreatDoor

namespace Go.Proofs.YtdplnedpbkpgpaaGreatDoor
set_option linter.all false

section
variable {P : Program} {f : FuncId} {R : Ending → World → Prop} {n : Nat} {w0 : World} {L : List Nat} {β : List Nat} {m : SM}
theorem Hs.emptyS (k : Nat) {E : TypeId} (size : Nat) {g : Nat} (hg : nm β k = g) (hk : m.hp[k]? = some (.b true E [])) (hrd : (match m.r with | .no => true | .lst .. => true | .lstN .. => true | _ => false) = true) (h : Hs P f R n w0 L β ⟨m.r, m.todo, m.sl, m.hp.set k (.s (some ⟨g, 0, none⟩) 0 0 E size [])⟩) : Hs P f R n w0 L β m := by
  refine ⟨fun w H W => ?_⟩
  have hB : Blk w (nm β k) E [] := by
    have := H.lies k _ hk
    simpa [HB.lies, dens] using this
  have key : w.ownsRow 0 E size (.slice (some ⟨nm β k, 0, none⟩) 0 0) 0 [] := ⟨by simp, .inr ⟨nm β k, 0, #[], rfl, Nat.zero_le _, hB, Nat.le_refl _, by decide, by simp, by simp⟩⟩
  subst hg
  have H' : Mem w0 L β (m.hp.set k (.s (some ⟨nm β k, 0, none⟩) 0 0 E size [])) w := H.swap k hk (Only.refl [] w) (by simp) rfl key (fun x hx => .inl hx)
  have g2 := h.go w H' (by
    simp only [SM.wf, Bool.and_eq_true] at W ⊢
    rw [List.length_set]
    refine ⟨W.1, List.all_eq_true.2 fun y hy => ?_⟩
    rcases List.mem_or_eq_of_mem_set hy with hy | rfl
    · exact List.all_eq_true.1 W.2 y hy
    · rfl)
  obtain ⟨r, todo, sl, hp⟩ := m
  cases r with
  | no => exact g2
  | lst => exact g2
  | lstN => exact g2
  | _ => cases hrd
end
end Go.Proofs.YtdplnedpbkpgpaaGreatDoor

namespace Go.Proofs.YtdplnedpbkpgpaaGreatDoor
set_option linter.all false
set_option maxRecDepth 100000
open Go.RowKit

section
variable {P : Program} {f : FuncId} {R : Ending → World → Prop} {n : Nat} {w0 w00 : World} {L : List Nat} {β : List Nat} {m : SM} {D1 : World → Prop}
/-- A call that makes a block, whatever is still to be read. -/
theorem Hs.callB0 {X : Type} (k : Nat) {T : TypeId} {cs : X → List Value} (sc : X → List SC) {Q : X → World → Prop} {F : FuncId} {args : Array Value} (C : Nx w00 w0 L D1)
    (hC : ∀ w, Mem w0 L β m.hp w → Calls P F args w (NewB w T cs Q)) (hd : ∀ β x, dens β (sc x) = cs x) (hsw : ∀ x j, (sc x).all (SC.wf j) = true)
    (hc : callOf P n β m = some (F, args)) (hk : Nat.beq m.hp.length k = true)
    (h : ∀ g x w1 L1, Nx w00 w1 L1 (fun w => Q x w ∧ D1 w) → Hs P f R n w1 L1 (β ++ [g]) (m.put (dstOf m) (.c (.p k 0)) (m.hp ++ [.b true T (sc x)]))) : Hs P f R n w0 L β m := by
  have hk := Nat.eq_of_beq_eq_true hk
  refine ⟨fun w H W => ?_⟩
  unfold callOf at hc
  split at hc
  · rename_i o ho
    split at hc
    · rename_i hg
      split at hc
      · rename_i F' args' hp
        injection hc with hc
        injection hc with h1 h2
        subst h1; subst h2
        have hd' : dstOf m = o.dst := by unfold dstOf; rw [ho]
        rw [hd'] at h
        refine Gs.op ho hg ?_
        unfold Oper.wp
        rw [fr_eval, pureOut_run P _ _ hp w]
        refine Calls.mono (hC w H) ?_
        rintro e w' ⟨g, x, rfl, O, hge, hB, q⟩
        have hw := SM.wf_hp W
        have hnm : nm (β ++ [g]) β.length = g := nm_last β g
        have H' : Mem w0 L (β ++ [g]) (m.hp ++ [.b true T (sc x)]) w' := by
          refine H.push (h := .b true T (sc x)) (by rw [H.len]; exact hw) O (fun y hy => ?_) ?_
          · injection hy with hy; omega
          · show Blk w' g T (dens (β ++ [g]) (sc x))
            rw [hd]; exact hB
        have key := Nx.key H'
        have N : Nx w00 w' (wrN (β ++ [g]) (m.hp ++ [.b true T (sc x)])) (fun w => Q x w ∧ D1 w) := by
          refine ⟨fun w3 O3 => C.back w3 (H'.back w3 O3), fun y hy => ?_, Nat.le_trans C.size H'.only.size, fun L' hL' => ?_⟩
          · rcases key y hy with h | h
            · exact C.mem y h
            · have := C.size; omega
          · refine (q _ fun y hy => ?_).and ?_
            · rcases List.mem_append.1 hy with h | h
              · have := hL' y h; have := C.size; have := H.only.size; exact .inl (by omega)
              · obtain ⟨k, hb, b, h1, h2, h3, h4⟩ := wrN_mem.1 h
                rcases Nat.lt_or_ge k m.hp.length with hk | hk
                · rw [List.getElem?_append_left hk] at h1
                  rw [List.getElem?_append_left (by rw [H.len]; exact hk)] at h2
                  exact .inl (HB.lies_lt (H.lies k hb h1) (by rw [nm_get h2]; exact h4))
                · rw [List.getElem?_append_right hk] at h1
                  rw [List.getElem?_append_right (by rw [H.len]; exact hk), H.len] at h2
                  cases hkk : k - m.hp.length with
                  | zero =>
                    rw [hkk] at h1 h2
                    simp at h1 h2
                    subst h1; subst h2
                    injection h4 with h4
                    exact .inr h4.symm
                  | succ j => rw [hkk] at h1; simp at h1
            · refine (C.keep L' hL').goN H'.only (fun y hy => .inl (by simp [hy])) (fun y hy => ?_)
              rcases List.mem_append.1 hy with h | h
              · exact .inl (by simp [h])
              · rcases key y h with h | h
                · exact .inl (by simp [h])
                · exact .inr h
        have hval : (Value.pointer (some ⟨g, 0, none⟩)) = (SV.c (.p k 0)).den (β ++ [g]) := by
          show _ = Value.pointer (some ⟨nm (β ++ [g]) k, 0, none⟩)
          rw [← hk, ← H.len, hnm]
        refine ⟨β ++ [g], putS o.dst (SV.c (SC.p k 0)) m.sl, m.hp ++ [HB.b true T (sc x)], ?_, fun w2 hI => ?_, (h g x w' _ N).go w' H'.rebase ?_⟩
        · rw [hval, ← fr_app n [g] (by rw [H.len]; exact SM.wf_sl W)]
          exact fr_put n (β ++ [g]) m.sl o.dst (.c (.p k 0))
        · exact IR.app H.len hw (fun i _ h hh => by rw [List.getElem?_append_left (List.getElem?_eq_some_iff.1 hh).1]; exact hh) hI
        · simp only [SM.wf, SM.put, Bool.and_eq_true]
          refine ⟨?_, ?_⟩
          · rw [List.length_append]; exact putS_wf (Slots.wf_mono (by omega) (SM.wf_sl W)) (by simp [SV.wf, SC.wf, ← hk, blt_spec])
          · rw [List.length_append]
            refine List.all_eq_true.2 fun y hy => ?_
            rcases List.mem_append.1 hy with hy | hy
            · have h1 := List.all_eq_true.1 hw y hy
              cases y with
              | b _ _ cs => exact List.all_eq_true.2 fun u hu => SC.wf_mono (by omega) (List.all_eq_true.1 h1 u hu)
              | _ => rfl
            · rw [List.mem_singleton.1 hy]; exact hsw x _
      · cases hc
    · cases hc
  · cases hc
theorem run_rem {T : TypeId} {a b : Int} (hb : b ≠ 0) (w : World) : (binOp .rem T (.int .i64 a) (.int .i64 b)).run P w = .ok (.int .i64 (a.tmod b)) w := by
  show (Op.intDiv .rem .i64 a b).run P w = _
  unfold Op.intDiv
  rw [if_neg hb]
  rfl
end
end Go.Proofs.YtdplnedpbkpgpaaGreatDoor
