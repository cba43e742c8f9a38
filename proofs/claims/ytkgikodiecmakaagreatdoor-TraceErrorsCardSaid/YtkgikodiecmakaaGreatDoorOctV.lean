/- Layer 1: the laws of what Write answers: of fields, and of fields in two parts · Layer 1: the laws of cutting at commas and joining, of numbers in four bytes · Layer 1: what is read is written as it came; what is written is read as it was: the laws, no program in sight. -/
import Derived.Test.YtkgikodiecmakaaGreatDoorOctR
import Derived.Lib.SplitLaws
namespace Go.Proofs.YtkgikodiecmakaaGreatDoor
set_option linter.all false
open Go.RowKit

/-- Fields that can be written. -/
def OkP (ps : List PF) : Prop := rowOk (ps.map (·.kind)) = true ∧ (∀ p ∈ ps, faultP p = 0) ∧ (ps.flatMap bytesP).length ≤ 33792
theorem writeFrom_ok : ∀ (ps : List PF) (acc : List Int), (∀ p ∈ ps, faultP p = 0) → (acc ++ ps.flatMap bytesP).length ≤ 33792 → writeFrom ps acc = (0, acc ++ ps.flatMap bytesP)
  | [], acc, _, _ => by simp [writeFrom]
  | p :: ps, acc, h1, h2 => by
    have e := h1 p (by simp)
    rw [List.flatMap_cons, ← List.append_assoc] at h2 ⊢
    have h3 : ¬ 33792 < (acc ++ bytesP p).length := by
      rw [List.length_append] at h2
      omega
    unfold writeFrom
    rw [if_neg (by simp [e]), if_neg h3]
    exact writeFrom_ok ps _ (fun q hq => h1 q (by simp [hq])) h2
theorem writeFrom_bad : ∀ (ps : List PF) (acc : List Int), ¬ ((∀ p ∈ ps, faultP p = 0) ∧ (acc ++ ps.flatMap bytesP).length ≤ 33792) → acc.length ≤ 33792 → ∃ e, e ≠ 0 ∧ writeFrom ps acc = (e, [])
  | [], acc, h, ha => by
    refine absurd ⟨fun p hp => by simp at hp, ?_⟩ h
    simpa using ha
  | p :: ps, acc, h, ha => by
    unfold writeFrom
    by_cases e : faultP p = 0
    · rw [if_neg (by simp [e])]
      by_cases h3 : 33792 < (acc ++ bytesP p).length
      · rw [if_pos h3]
        exact ⟨6, by decide, rfl⟩
      · rw [if_neg h3]
        refine writeFrom_bad ps _ (fun ⟨h4, h5⟩ => h ⟨fun q hq => ?_, ?_⟩) (by omega)
        · rcases List.mem_cons.1 hq with rfl | hq
          · exact e
          · exact h4 q hq
        · rw [List.flatMap_cons, ← List.append_assoc]
          exact h5
    · rw [if_pos e]
      exact ⟨_, e, rfl⟩
theorem writeP_ok {ps : List PF} (h : OkP ps) : writeP ps = (0, ps.flatMap bytesP) := by
  unfold writeP
  rw [if_pos h.1]
  have := writeFrom_ok ps [] h.2.1 (by simpa using h.2.2)
  simpa using this
theorem writeP_bad {ps : List PF} (h : ¬ OkP ps) : ∃ e, e ≠ 0 ∧ writeP ps = (e, []) := by
  unfold writeP
  by_cases hr : rowOk (ps.map (·.kind)) = true
  · rw [if_pos hr]
    exact writeFrom_bad ps [] (fun ⟨h1, h2⟩ => h ⟨hr, h1, by simpa using h2⟩) (by simp)
  · rw [if_neg hr]
    exact ⟨2, by decide, rfl⟩
theorem writeP_len {ps : List PF} : (writeP ps).2.length ≤ 33792 := by
  by_cases h : OkP ps
  · rw [writeP_ok h]; exact h.2.2
  · obtain ⟨e, _, h2⟩ := writeP_bad h
    rw [h2]; simp
theorem goodAt_take {ks : List Int} {k i : Nat} (hi : i < k) (h : goodAt ks i = true) : goodAt (ks.take k) i = true := by
  have e : (ks.take k).getD i 0 = ks.getD i 0 := by
    simp only [List.getD_eq_getElem?_getD, List.getElem?_take, hi, if_true]
  unfold goodAt at h ⊢
  rw [e]
  simp only [Bool.and_eq_true, Bool.not_eq_true', Bool.and_eq_false_iff, decide_eq_false_iff_not] at h ⊢
  refine ⟨h.1, ?_⟩
  rcases h.2 with h2 | h2
  · exact .inl h2
  · right
    rw [List.length_take]
    omega
theorem goodAt_drop {ks : List Int} {k i : Nat} : goodAt (ks.drop k) i = goodAt ks (k + i) := by
  unfold goodAt
  have e : (ks.drop k).getD i 0 = ks.getD (k + i) 0 := by simp [List.getD_eq_getElem?_getD, List.getElem?_drop]
  have e2 : decide (i + 1 < (ks.drop k).length) = decide (k + i + 1 < ks.length) := by
    rw [List.length_drop]
    simp only [decide_eq_decide]
    omega
  rw [e, e2]
theorem rowOk_take {ks : List Int} (k : Nat) (h : rowOk ks = true) : rowOk (ks.take k) = true := by
  rw [rowOk_iff] at h ⊢
  intro i hi
  rw [List.length_take] at hi
  exact goodAt_take (by omega) (h i (by omega))
theorem rowOk_drop {ks : List Int} (k : Nat) (h : rowOk ks = true) : rowOk (ks.drop k) = true := by
  rw [rowOk_iff] at h ⊢
  intro i hi
  rw [List.length_drop] at hi
  rw [goodAt_drop]
  exact h (k + i) (by omega)
theorem rowOk_join {ks : List Int} {k : Nat} (hk : k ≤ ks.length) (h1 : rowOk (ks.take k) = true) (h2 : rowOk (ks.drop k) = true) (h3 : ¬ (0 < k ∧ ks.getD (k - 1) 0 = 6)) : rowOk ks = true := by
  rw [rowOk_iff] at h1 h2 ⊢
  intro i hi
  by_cases hik : i < k
  · have g := h1 i (by rw [List.length_take]; omega)
    have e : (ks.take k).getD i 0 = ks.getD i 0 := by
      simp only [List.getD_eq_getElem?_getD, List.getElem?_take, hik, if_true]
    unfold goodAt at g ⊢
    rw [e] at g
    simp only [Bool.and_eq_true, Bool.not_eq_true', Bool.and_eq_false_iff, decide_eq_false_iff_not] at g ⊢
    refine ⟨g.1, ?_⟩
    rcases g.2 with g2 | g2
    · exact .inl g2
    · left
      intro h6
      rw [List.length_take] at g2
      have : i = k - 1 := by omega
      rw [this] at h6
      exact h3 ⟨by omega, h6⟩
  · have := h2 (i - k) (by rw [List.length_drop]; omega)
    rw [goodAt_drop] at this
    rw [show k + (i - k) = i by omega] at this
    exact this

/-- What is written in two parts is what is written at once. -/
theorem joins_law (ps : List PF) (k : Nat) (hk : k ≤ ps.length) :
    if (writeP ps).1 = 0 then (writeP (ps.take k)).1 = 0 ∧ (writeP (ps.drop k)).1 = 0 ∧ (writeP ps).2 = (writeP (ps.take k)).2 ++ (writeP (ps.drop k)).2
    else (writeP (ps.take k)).1 ≠ 0 ∨ (writeP (ps.drop k)).1 ≠ 0 ∨ 33792 < (writeP (ps.take k)).2.length + (writeP (ps.drop k)).2.length ∨ (0 < k ∧ (ps.map (·.kind)).getD (k - 1) 0 = 6) := by
  have hf : ps.flatMap bytesP = (ps.take k).flatMap bytesP ++ (ps.drop k).flatMap bytesP := by
    rw [← List.flatMap_append, List.take_append_drop]
  have ha : ∀ p ∈ ps, p ∈ ps.take k ∨ p ∈ ps.drop k := fun p hp => by
    rw [← List.mem_append, List.take_append_drop]
    exact hp
  by_cases h : OkP ps
  · have h1 : OkP (ps.take k) := ⟨by rw [List.map_take]; exact rowOk_take k h.1, fun p hp => h.2.1 p (List.mem_of_mem_take hp), by have := h.2.2; rw [hf, List.length_append] at this; omega⟩
    have h2 : OkP (ps.drop k) := ⟨by rw [List.map_drop]; exact rowOk_drop k h.1, fun p hp => h.2.1 p (List.mem_of_mem_drop hp), by have := h.2.2; rw [hf, List.length_append] at this; omega⟩
    rw [writeP_ok h, writeP_ok h1, writeP_ok h2]
    exact ⟨rfl, rfl, hf⟩
  · obtain ⟨e, he, h0⟩ := writeP_bad h
    rw [h0]
    dsimp only
    rw [if_neg he]
    by_cases h1 : OkP (ps.take k)
    · by_cases h2 : OkP (ps.drop k)
      · right; right
        by_cases h3 : 0 < k ∧ (ps.map (·.kind)).getD (k - 1) 0 = 6
        · exact .inr h3
        · left
          rw [writeP_ok h1, writeP_ok h2]
          dsimp only
          have hr := rowOk_join (ks := ps.map (·.kind)) (k := k) (by rw [List.length_map]; exact hk) (by rw [← List.map_take]; exact h1.1) (by rw [← List.map_drop]; exact h2.1) h3
          have hn : ¬ (ps.flatMap bytesP).length ≤ 33792 := fun h4 => h ⟨hr, fun p hp => (ha p hp).elim (h1.2.1 p) (h2.2.1 p), h4⟩
          rw [hf, List.length_append] at hn
          omega
      · obtain ⟨e2, he2, h4⟩ := writeP_bad h2
        rw [h4]
        exact .inr (.inl he2)
    · obtain ⟨e2, he2, h4⟩ := writeP_bad h1
      rw [h4]
      exact .inl he2
end Go.Proofs.YtkgikodiecmakaaGreatDoor

namespace Go.Proofs.YtkgikodiecmakaaGreatDoor
set_option linter.all false
open Go.RowKit

/-- A text cut at its commas. -/
def cutL : List UInt8 → List (List UInt8)
  | [] => [[]]
  | c :: s => if c = 44 then [] :: cutL s else (c :: (cutL s).headD []) :: (cutL s).tail
theorem cutL_ne (s : List UInt8) : ∃ h t, cutL s = h :: t := by
  cases s with
  | nil => exact ⟨[], [], rfl⟩
  | cons c s =>
    unfold cutL
    split
    · exact ⟨_, _, rfl⟩
    · exact ⟨_, _, rfl⟩
theorem idx_cons (c : UInt8) (l : List UInt8) (h : c ≠ 44) : Lib.index (c :: l) [44] = if Lib.index l [44] == -1 then -1 else Lib.index l [44] + 1 := by
  have hp : ([44] : List UInt8).isPrefixOf (c :: l) = false := by simp [List.isPrefixOf, Ne.symm h]
  rw [Lib.index, hp]; simp
theorem splitK_cut : ∀ s : List UInt8, Lib.splitK [44] 0 (Lib.count s [44]) s = cutL s
  | [] => by
    rw [Lib.count_miss (by simp [Lib.index])]
    rfl
  | c :: l => by
    have ih := splitK_cut l
    by_cases h : c = 44
    · subst h
      rw [Lib.count_cons_eq, Nat.add_comm]
      have hix : Lib.index (44 :: l) [44] = 0 := by rw [Lib.index]; simp [List.isPrefixOf]
      unfold Lib.splitK cutL
      rw [hix]
      simp [ih]
    · rw [Lib.count_cons_ne c 44 l h]
      have hix := idx_cons c l h
      unfold cutL
      rw [if_neg h]
      by_cases hm : Lib.index l [44] = -1
      · rw [Lib.count_miss hm] at ih ⊢
        rw [← ih]
        rfl
      · have hge := Lib.index_ge l [44]
        obtain ⟨j, hj⟩ : ∃ j : Nat, Lib.index l [44] = j := ⟨(Lib.index l [44]).toNat, by omega⟩
        have hix' : Lib.index (c :: l) [44] = ((j + 1 : Nat) : Int) := by rw [hix, if_neg (fun e => hm (beq_iff_eq.1 e)), hj]; omega
        rw [Lib.count_hit (by simp) hj, Nat.add_comm 1] at ih ⊢
        rw [← ih]
        unfold Lib.splitK
        rw [hj, hix', if_neg (fun e => by have := beq_iff_eq.1 e; omega), if_neg (fun e => by have := beq_iff_eq.1 e; omega)]
        simp
theorem join_cut (s : List UInt8) : Lib.join (cutL s) [44] = s := by
  induction s with
  | nil => exact Lib.join_one _ _
  | cons c s ih =>
    obtain ⟨h, t, e⟩ := cutL_ne s
    unfold cutL
    rw [e] at ih ⊢
    rw [Lib.join_cons] at ih
    split
    · rename_i hc
      subst hc
      rw [Lib.join_cons]
      simp [Lib.joinTail] at ih ⊢
      exact ih
    · rw [Lib.join_cons]
      simp at ih ⊢
      exact ih
theorem cutL_one {x : List UInt8} (h : ∀ c ∈ x, c ≠ 44) : cutL x = [x] := by
  induction x with
  | nil => rfl
  | cons c x ih =>
    unfold cutL
    rw [if_neg (h c (by simp)), ih (fun d hd => h d (by simp [hd]))]
    rfl
theorem cutL_app {x : List UInt8} (h : ∀ c ∈ x, c ≠ 44) (s : List UInt8) : cutL (x ++ 44 :: s) = x :: cutL s := by
  induction x with
  | nil =>
    rw [List.nil_append]
    conv => lhs; unfold cutL
    rw [if_pos rfl]
  | cons c x ih =>
    rw [List.cons_append]
    conv => lhs; unfold cutL
    rw [if_neg (h c (by simp)), ih (fun d hd => h d (by simp [hd]))]
    rfl
theorem cut_join (x : List UInt8) (r : List (List UInt8)) (h : ∀ y ∈ x :: r, ∀ c ∈ y, c ≠ 44) : cutL (Lib.join (x :: r) [44]) = x :: r := by
  induction r generalizing x with
  | nil => rw [Lib.join_one]; exact cutL_one (h x (by simp))
  | cons y r ih =>
    have e : Lib.join (x :: y :: r) [44] = x ++ 44 :: Lib.join (y :: r) [44] := by
      rw [Lib.join_cons, Lib.join_cons]
      simp [Lib.joinTail]
    rw [e, cutL_app (h x (by simp)), ih y (fun z hz => h z (by simp at hz ⊢; exact .inr hz))]
theorem bytes_ext {x y : ByteArray} (h : x.data.toList = y.data.toList) : x = y := ByteArray.ext (Array.ext' h)
theorem pieces_data (s : ByteArray) : (pieces s).map (·.data.toList) = cutL s.data.toList := by
  unfold pieces
  rw [Lib.splitB_data]
  exact splitK_cut _
theorem pieces_join (s : ByteArray) : joinU (pieces s) = s.data.toList := by
  unfold joinU
  rw [pieces_data]
  exact join_cut _
theorem name_data {s : ByteArray} (h : nameOk s = true) : 1 ≤ s.size ∧ s.size ≤ 64 ∧ ∀ c ∈ s.data.toList, c ≠ 44 := by
  unfold nameOk at h
  simp only [Bool.and_eq_true, decide_eq_true_eq] at h
  refine ⟨h.1.1, h.1.2, fun c hc e => ?_⟩
  have := List.all_eq_true.1 h.2 c hc
  unfold nameC at this
  subst e
  revert this
  decide
theorem join_pieces (l : List ByteArray) (h0 : l ≠ []) (h : ∀ s ∈ l, nameOk s = true) (s : ByteArray) (hs : s.data.toList = joinU l) : pieces s = l := by
  have e : (pieces s).map (·.data.toList) = l.map (·.data.toList) := by
    rw [pieces_data, hs]
    unfold joinU
    cases l with
    | nil => exact absurd rfl h0
    | cons x r =>
      rw [List.map_cons]
      refine cut_join _ _ (fun y hy c hc => ?_)
      have hy : y ∈ (x :: r).map (·.data.toList) := hy
      obtain ⟨z, hz, rfl⟩ := List.mem_map.1 hy
      exact (name_data (h z hz)).2.2 c hc
  exact (List.map_inj_right (fun x y hxy => bytes_ext hxy)).1 e
theorem joinU_ne {l : List ByteArray} (h0 : l ≠ []) (h : ∀ s ∈ l, nameOk s = true) : joinU l ≠ [] := by
  cases l with
  | nil => exact absurd rfl h0
  | cons x r =>
    unfold joinU
    rw [List.map_cons, Lib.join_cons]
    intro e
    have h1 := (name_data (h x (by simp))).1
    have h2 : x.data.toList = [] := List.append_eq_nil_iff.1 e |>.1
    have h3 : x.size = x.data.toList.length := by simp
    rw [h3, h2] at h1
    simp at h1
theorem strOfNums_data (xs : List Int) : (strOfNums xs).data.toList = xs.map fun n => UInt8.ofNat n.toNat := rfl
theorem u8i_str {xs : List Int} (h : ∀ x ∈ xs, 0 ≤ x ∧ x < 256) : u8i (strOfNums xs).data.toList = xs := by
  rw [strOfNums_data]
  unfold u8i
  induction xs with
  | nil => rfl
  | cons a r ih =>
    have ha := h a (by simp)
    rw [List.map_cons, List.map_cons, ih (fun x hx => h x (by simp [hx]))]
    congr 1
    rw [UInt8.toNat_ofNat']
    omega
theorem str_u8i (l : List UInt8) : (strOfNums (u8i l)).data.toList = l := by
  rw [strOfNums_data]
  unfold u8i
  induction l with
  | nil => rfl
  | cons c l ih =>
    rw [List.map_cons, List.map_cons, ih, Int.toNat_natCast, UInt8.ofNat_toNat]
theorem u8i_range (l : List UInt8) : ∀ x ∈ u8i l, 0 ≤ x ∧ x < 256 := by
  intro x hx
  unfold u8i at hx
  obtain ⟨c, _, rfl⟩ := List.mem_map.1 hx
  have := c.toNat_lt
  omega
theorem be4_four (n : Int) (t : List Int) (h0 : 0 ≤ n) (h1 : n ≤ 4294967295) : be4 (four n ++ t) = n := by
  unfold be4 four
  simp
  omega
theorem four_be4 (l : List Int) (h4 : 4 ≤ l.length) (hl : ∀ x ∈ l, 0 ≤ x ∧ x < 256) : four (be4 l) = l.take 4 := by
  match l, h4 with
  | a :: b :: c :: d :: t, _ =>
    have ha := hl a (by simp)
    have hb := hl b (by simp)
    have hc := hl c (by simp)
    have hd := hl d (by simp)
    unfold be4 four
    simp
    omega
theorem four_length (n : Int) : (four n).length = 4 := rfl
theorem four_range (n : Int) : ∀ x ∈ four n, 0 ≤ x ∧ x < 256 := by
  intro x hx
  unfold four at hx
  simp at hx
  omega
end Go.Proofs.YtkgikodiecmakaaGreatDoor

namespace Go.Proofs.YtkgikodiecmakaaGreatDoor
set_option linter.all false
open Go.RowKit

def InB (l : List Int) : Prop := ∀ x ∈ l, 0 ≤ x ∧ x < 256
theorem InB.left {a b : List Int} (h : InB (a ++ b)) : InB a := fun x hx => h x (by simp [hx])
theorem InB.right {a b : List Int} (h : InB (a ++ b)) : InB b := fun x hx => h x (by simp [hx])
theorem InB.drop {a : List Int} (h : InB a) (n : Nat) : InB (a.drop n) := fun x hx => h x (List.mem_of_mem_drop hx)
theorem InB.take {a : List Int} (h : InB a) (n : Nat) : InB (a.take n) := fun x hx => h x (List.mem_of_mem_take hx)

/-- A field's bytes, as it was read of them. -/
def Match (p : PF) (pre : List Int) : Prop := if p.kind = 2 then ∃ b, pre = [b] ∧ bytesP p = [if b = 0 then 0 else 1] else bytesP p = pre
theorem Match.len {p : PF} {pre : List Int} (h : Match p pre) : (bytesP p).length = pre.length := by
  unfold Match at h
  split at h
  · obtain ⟨b, rfl, e⟩ := h
    rw [e]; rfl
  · rw [h]

theorem rText_ok {l : List Int} (hl : InB l) (h : (rText l).e = 0) : 4 ≤ l.length ∧ be4 l ≤ 32768 ∧ 0 ≤ be4 l ∧ 4 + (be4 l).toNat ≤ l.length ∧ (rText l).text = (l.drop 4).take (be4 l).toNat ∧ (rText l).rest = l.drop (4 + (be4 l).toNat) := by
  have hb := be4_ok l hl
  unfold rText rShort at h ⊢
  split at h
  · cases h
  · rename_i h4
    rw [if_neg h4]
    unfold rTextN at h ⊢
    split at h
    · cases h
    · rename_i h5
      split at h
      · cases h
      · rename_i h6
        rw [if_neg h5, if_neg h6]
        rw [List.length_drop] at h6
        exact ⟨by omega, by omega, hb.1, by omega, rfl, by rw [List.drop_drop]⟩
theorem take_text {l : List Int} (hl : InB l) (h4 : 4 ≤ l.length) (h5 : 4 + (be4 l).toNat ≤ l.length) (h0 : 0 ≤ be4 l) :
    four ((l.drop 4).take (be4 l).toNat).length ++ (l.drop 4).take (be4 l).toNat = l.take (4 + (be4 l).toNat) := by
  have e : ((((l.drop 4).take (be4 l).toNat).length : Nat) : Int) = be4 l := by
    rw [List.length_take, List.length_drop]
    omega
  rw [e, four_be4 l h4 hl, List.take_add]

theorem kind_again (k : Nat) (h1 : 1 ≤ k) (h6 : k ≤ 6) (l : List Int) (hl : InB l) (h : (rKind k l).e = 0) :
    faultP ⟨k, (rKind k l).n, (rKind k l).text, (rKind k l).list⟩ = 0 ∧ (0 ≤ (rKind k l).n ∧ (rKind k l).n ≤ 4294967295) ∧
    ∃ pre, l = pre ++ (rKind k l).rest ∧ Match ⟨k, (rKind k l).n, (rKind k l).text, (rKind k l).list⟩ pre := by
  have hk : k = 1 ∨ k = 2 ∨ k = 3 ∨ k = 4 ∨ k = 5 ∨ k = 6 := by omega
  rcases hk with rfl | rfl | rfl | rfl | rfl | rfl
  · have e : rKind 1 l = rOctet l := rfl
    rw [e] at h ⊢
    cases l with
    | nil => cases h
    | cons a t =>
      have ha := hl a (by simp)
      have e2 : rOctet (a :: t) = ⟨0, a, [], [], t⟩ := by unfold rOctet; simp
      rw [e2]
      refine ⟨by unfold faultP over; simp; omega, ⟨ha.1, by dsimp; omega⟩, [a], rfl, ?_⟩
      unfold Match bytesP
      simp
      omega
  · have e : rKind 2 l = rFlag l := rfl
    rw [e] at h ⊢
    cases l with
    | nil => cases h
    | cons a t =>
      have ha := hl a (by simp)
      have e2 : rFlag (a :: t) = ⟨0, min a 1, [], [], t⟩ := by unfold rFlag rOctet; simp
      rw [e2]
      refine ⟨by unfold faultP over; simp; omega, ⟨by dsimp; omega, by dsimp; omega⟩, [a], rfl, ?_⟩
      unfold Match bytesP
      simp
      split <;> omega
  · have e : rKind 3 l = rNumber l := rfl
    rw [e] at h ⊢
    by_cases h4 : l.length < 4
    · unfold rNumber rShort at h
      rw [if_pos h4] at h
      cases h
    · have e2 : rNumber l = ⟨0, be4 l, [], [], l.drop 4⟩ := by unfold rNumber; rw [if_neg h4]
      rw [e2]
      have hb := be4_ok l hl
      refine ⟨rfl, ⟨hb.1, by dsimp; omega⟩, l.take 4, (List.take_append_drop _ _).symm, ?_⟩
      exact four_be4 l (by omega) hl
  · have e : rKind 4 l = rText l := rfl
    rw [e] at h ⊢
    obtain ⟨a1, a2, a3, a4, a5, a6⟩ := rText_ok hl h
    obtain ⟨b1, b2, b3⟩ := rText_text l
    rw [b3, a5, a6]
    refine ⟨?_, ⟨Int.le_refl 0, show (0 : Int) ≤ 4294967295 by decide⟩, l.take (4 + (be4 l).toNat), (List.take_append_drop _ _).symm, ?_⟩
    · rw [a5] at b1
      show over _ 32768 6 = 0
      exact over_neg (by dsimp only; omega)
    · exact take_text hl a1 a4 a3
  · have e : rKind 5 l = rNames l := rfl
    rw [e] at h ⊢
    unfold rNames rNamesT at h ⊢
    split at h
    · rename_i h7
      exact absurd h h7
    · rename_i h7
      have h7 : (rText l).e = 0 := by simpa using h7
      obtain ⟨a1, a2, a3, a4, a5, a6⟩ := rText_ok hl h7
      rw [if_neg (by simp [h7])]
      split at h
      · rename_i h8
        rw [if_pos h8]
        refine ⟨rfl, ⟨Int.le_refl 0, show (0 : Int) ≤ 4294967295 by decide⟩, l.take (4 + (be4 l).toNat), ?_, ?_⟩
        · dsimp only
          rw [a6]
          exact (List.take_append_drop _ _).symm
        · have := take_text hl a1 a4 a3
          rw [← a5, h8] at this
          exact this
      · rename_i h8
        rw [if_neg h8]
        have hp := pieces_join (strOfNums (rText l).text)
        have hr : InB (rText l).text := by rw [a5]; exact (hl.drop 4).take _
        have hu := u8i_str hr
        refine ⟨h, ⟨Int.le_refl 0, show (0 : Int) ≤ 4294967295 by decide⟩, l.take (4 + (be4 l).toNat), ?_, ?_⟩
        · dsimp only
          rw [a6]
          exact (List.take_append_drop _ _).symm
        · show four (joinU (pieces (strOfNums (rText l).text))).length ++ u8i (joinU (pieces (strOfNums (rText l).text))) = _
          rw [hp, hu]
          have e3 : (strOfNums (rText l).text).data.toList.length = (rText l).text.length := by rw [strOfNums_data, List.length_map]
          rw [e3, a5]
          exact take_text hl a1 a4 a3
  · have e : rKind 6 l = rRest l := rfl
    rw [e] at h ⊢
    unfold rRest at h ⊢
    exact ⟨h, ⟨Int.le_refl 0, show (0 : Int) ≤ 4294967295 by decide⟩, l, by simp, rfl⟩

/-- Fields, as they were read of these bytes. -/
def Parts : List PF → List Int → Prop
  | [], l => l = []
  | p :: ps, l => ∃ pre rest, l = pre ++ rest ∧ Match p pre ∧ Parts ps rest
theorem readFrom_again : ∀ (ks l : List Int) (acc : List PF), (∀ k ∈ ks, 1 ≤ k ∧ k ≤ 6) → InB l →
    ((readFrom ks l acc).1 ≠ 0 ∧ (readFrom ks l acc).2 = []) ∨
    ((readFrom ks l acc).1 = 0 ∧ ∃ ps, (readFrom ks l acc).2 = acc ++ ps ∧ ps.map (·.kind) = ks ∧ (∀ p ∈ ps, faultP p = 0 ∧ 0 ≤ p.n ∧ p.n ≤ 4294967295) ∧ Parts ps l)
  | [], l, acc, _, _ => by
    unfold readFrom
    split
    · exact .inl ⟨by decide, rfl⟩
    · rename_i h
      refine .inr ⟨rfl, [], by simp, rfl, fun p hp => by simp at hp, ?_⟩
      exact List.eq_nil_of_length_eq_zero (by omega)
  | k :: ks, l, acc, hk, hl => by
    have h16 := hk k (by simp)
    obtain ⟨j, rfl⟩ := Int.eq_ofNat_of_zero_le (show 0 ≤ k by omega)
    unfold readFrom
    rw [Int.toNat_natCast]
    by_cases he : (rKind j l).e = 0
    · rw [if_neg (by simp [he])]
      obtain ⟨g1, g2, pre, g3, g4⟩ := kind_again j (by omega) (by omega) l hl he
      have hr : InB (rKind j l).rest := by
        rw [g3] at hl
        exact hl.right
      rcases readFrom_again ks (rKind j l).rest (acc ++ [⟨j, (rKind j l).n, (rKind j l).text, (rKind j l).list⟩]) (fun k hk2 => hk k (by simp [hk2])) hr with h | ⟨h0, ps, h1, h2, h3, h4⟩
      · exact .inl h
      · refine .inr ⟨h0, ⟨j, (rKind j l).n, (rKind j l).text, (rKind j l).list⟩ :: ps, by rw [h1]; simp, by rw [List.map_cons, h2], fun p hp => ?_, pre, _, g3, g4, h4⟩
        rcases List.mem_cons.1 hp with rfl | hp
        · exact ⟨g1, g2⟩
        · exact h3 p hp
    · rw [if_pos he]
      exact .inl ⟨he, rfl⟩
theorem Parts.len : ∀ {ps : List PF} {l : List Int}, Parts ps l → (ps.flatMap bytesP).length = l.length
  | [], l, h => by rw [h]; rfl
  | p :: ps, l, ⟨pre, rest, e, m, h⟩ => by
    rw [e, List.flatMap_cons, List.length_append, List.length_append, m.len, Parts.len h]
theorem Parts.at_ : ∀ {ps : List PF} {l : List Int}, Parts ps l → ∀ (i : Nat) (p : PF), ps[i]? = some p →
    Match p ((l.drop ((ps.take i).flatMap bytesP).length).take (bytesP p).length) ∧ ((ps.flatMap bytesP).drop ((ps.take i).flatMap bytesP).length).take (bytesP p).length = bytesP p ∧
    ((ps.take i).flatMap bytesP).length + (bytesP p).length ≤ l.length
  | [], l, h, i, p, hp => by simp at hp
  | q :: ps, l, ⟨pre, rest, e, m, h⟩, 0, p, hp => by
    simp at hp
    subst hp
    rw [e]
    simp [List.flatMap_cons, m.len]
    exact m
  | q :: ps, l, ⟨pre, rest, e, m, h⟩, i + 1, p, hp => by
    simp at hp
    obtain ⟨h1, h2, h3⟩ := Parts.at_ h i p hp
    rw [e, List.take_succ_cons, List.flatMap_cons, List.length_append, m.len, List.flatMap_cons, List.length_append]
    rw [← List.drop_drop, List.drop_left]
    have e2 : (bytesP q ++ ps.flatMap bytesP).drop (pre.length + ((ps.take i).flatMap bytesP).length) = (ps.flatMap bytesP).drop ((ps.take i).flatMap bytesP).length := by
      rw [← List.drop_drop, ← m.len, List.drop_left]
    rw [e2]
    exact ⟨h1, h2, by omega⟩
theorem rowOk_range {ks : List Int} (h : rowOk ks = true) : ∀ k ∈ ks, 1 ≤ k ∧ k ≤ 6 := fun k hk => by
  obtain ⟨i, hi⟩ := List.getElem?_of_mem hk
  exact rowOk_at h hi
/-- What is read is written as it came. -/
theorem again_law (ks l : List Int) (hl : InB l) (hm : l.length ≤ 33792) :
    ((readP ks l).1 ≠ 0 ∧ (readP ks l).2 = []) ∨
    ((readP ks l).1 = 0 ∧ (readP ks l).2.map (·.kind) = ks ∧ OkP (readP ks l).2 ∧ (∀ p ∈ (readP ks l).2, 1 ≤ p.kind ∧ p.kind ≤ 6 ∧ faultP p = 0 ∧ 0 ≤ p.n ∧ p.n ≤ 4294967295) ∧ Parts (readP ks l).2 l) := by
  unfold readP
  by_cases hr : rowOk ks = true
  · rw [if_pos hr]
    rcases readFrom_again ks l [] (rowOk_range hr) hl with h | ⟨h0, ps, h1, h2, h3, h4⟩
    · exact .inl h
    · rw [List.nil_append] at h1
      rw [h1]
      refine .inr ⟨h0, h2, ⟨by rw [h2]; exact hr, fun p hp => (h3 p hp).1, by rw [h4.len]; exact hm⟩, fun p hp => ?_, h4⟩
      have hk := rowOk_range hr p.kind (by rw [← h2]; exact List.mem_map_of_mem hp)
      exact ⟨hk.1, hk.2, h3 p hp⟩
  · rw [if_neg hr]
    exact .inl ⟨by decide, rfl⟩

/-- A field with what its kind names alone. -/
def ownP (p : PF) : PF := ⟨p.kind, if p.kind = 4 ∨ p.kind = 5 ∨ p.kind = 6 then 0 else p.n, if p.kind = 4 ∨ p.kind = 6 then p.text else [], if p.kind = 5 then p.list else []⟩
theorem rText_back (t tl : List Int) (h : t.length ≤ 32768) : rText (four t.length ++ t ++ tl) = ⟨0, 0, t, [], tl⟩ := by
  have hb : be4 (four t.length ++ t ++ tl) = (t.length : Int) := by
    rw [List.append_assoc]
    exact be4_four _ _ (by omega) (by omega)
  have hd : (four t.length ++ t ++ tl).drop 4 = t ++ tl := by
    rw [List.append_assoc]
    exact List.drop_left' rfl
  unfold rText
  rw [if_neg (by simp [four_length]), hb, hd, Int.toNat_natCast]
  unfold rTextN
  rw [if_neg (by omega), if_neg (by simp)]
  simp
section
variable (n : Int) (t : List Int) (ls : List ByteArray) (l : List Int)
theorem rKind_1 : rKind 1 l = rOctet l := rfl
theorem rKind_2 : rKind 2 l = rFlag l := rfl
theorem rKind_3 : rKind 3 l = rNumber l := rfl
theorem rKind_4 : rKind 4 l = rText l := rfl
theorem rKind_5 : rKind 5 l = rNames l := rfl
theorem rKind_6 : rKind 6 l = rRest l := rfl
theorem bytesP_1 : bytesP ⟨1, n, t, ls⟩ = [n % 256] := rfl
theorem bytesP_2 : bytesP ⟨2, n, t, ls⟩ = [n % 256] := rfl
theorem bytesP_3 : bytesP ⟨3, n, t, ls⟩ = four n := rfl
theorem bytesP_4 : bytesP ⟨4, n, t, ls⟩ = four t.length ++ t := rfl
theorem bytesP_5 : bytesP ⟨5, n, t, ls⟩ = four (joinU ls).length ++ u8i (joinU ls) := rfl
theorem bytesP_6 : bytesP ⟨6, n, t, ls⟩ = t := rfl
theorem faultP_1 : faultP ⟨1, n, t, ls⟩ = over n 255 5 := rfl
theorem faultP_2 : faultP ⟨2, n, t, ls⟩ = over n 1 5 := rfl
theorem faultP_3 : faultP ⟨3, n, t, ls⟩ = 0 := rfl
theorem faultP_4 : faultP ⟨4, n, t, ls⟩ = over t.length 32768 6 := rfl
theorem faultP_5 : faultP ⟨5, n, t, ls⟩ = namesBad ls := rfl
theorem faultP_6 : faultP ⟨6, n, t, ls⟩ = over t.length 33792 6 := rfl
end
/-- What a right field's bytes are read as. -/
def Backs (k : Nat) (p : PF) (tl : List Int) : Prop := rKind k (bytesP p ++ tl) = ⟨0, (ownP p).n, (ownP p).text, (ownP p).list, tl⟩
theorem back1 (n : Int) (t : List Int) (ls : List ByteArray) (tl : List Int) (hn : 0 ≤ n) (hf : faultP ⟨1, n, t, ls⟩ = 0) : Backs 1 ⟨1, n, t, ls⟩ tl := by
  rw [faultP_1] at hf
  have := over_ok hf (by decide)
  unfold Backs
  rw [rKind_1, bytesP_1, show ownP ⟨1, n, t, ls⟩ = ⟨1, n, [], []⟩ from rfl, show n % 256 = n by omega]
  unfold rOctet
  simp
theorem back2 (n : Int) (t : List Int) (ls : List ByteArray) (tl : List Int) (hn : 0 ≤ n) (hf : faultP ⟨2, n, t, ls⟩ = 0) : Backs 2 ⟨2, n, t, ls⟩ tl := by
  rw [faultP_2] at hf
  have := over_ok hf (by decide)
  unfold Backs
  rw [rKind_2, bytesP_2, show ownP ⟨2, n, t, ls⟩ = ⟨2, n, [], []⟩ from rfl, show n % 256 = n by omega]
  unfold rFlag rOctet
  simp
  omega
theorem back3 (n : Int) (t : List Int) (ls : List ByteArray) (tl : List Int) (hn : 0 ≤ n ∧ n ≤ 4294967295) : Backs 3 ⟨3, n, t, ls⟩ tl := by
  unfold Backs
  rw [rKind_3, bytesP_3, show ownP ⟨3, n, t, ls⟩ = ⟨3, n, [], []⟩ from rfl]
  unfold rNumber
  rw [if_neg (by simp [four_length]), be4_four n tl hn.1 hn.2]
  congr 1
theorem back4 (n : Int) (t : List Int) (ls : List ByteArray) (tl : List Int) (hf : faultP ⟨4, n, t, ls⟩ = 0) : Backs 4 ⟨4, n, t, ls⟩ tl := by
  rw [faultP_4] at hf
  have := over_ok hf (by decide)
  unfold Backs
  rw [rKind_4, bytesP_4, show ownP ⟨4, n, t, ls⟩ = ⟨4, 0, t, []⟩ from rfl]
  exact rText_back t tl (by omega)
theorem back5 (n : Int) (t : List Int) (ls : List ByteArray) (tl : List Int) (hf : faultP ⟨5, n, t, ls⟩ = 0) : Backs 5 ⟨5, n, t, ls⟩ tl := by
  rw [faultP_5] at hf
  obtain ⟨a1, a2⟩ := namesBad_ok hf
  have hj := joinU_le ls a2
  unfold Backs
  rw [rKind_5, bytesP_5, show ownP ⟨5, n, t, ls⟩ = ⟨5, 0, [], ls⟩ from rfl]
  have hlen : (u8i (joinU ls)).length = (joinU ls).length := by unfold u8i; rw [List.length_map]
  have hT := rText_back (u8i (joinU ls)) tl (by omega)
  rw [hlen] at hT
  unfold rNames
  rw [hT]
  unfold rNamesT
  rw [if_neg (by simp)]
  dsimp only
  by_cases h0 : ls = []
  · subst h0
    rw [if_pos (by rfl)]
  · have hok : ∀ s ∈ ls, nameOk s = true := by
      unfold namesBad at hf
      split at hf
      · cases hf
      · split at hf
        · rename_i h8
          exact List.all_eq_true.1 h8
        · cases hf
    have hne : u8i (joinU ls) ≠ [] := fun e => joinU_ne h0 hok (List.map_eq_nil_iff.1 e)
    rw [if_neg hne, join_pieces ls h0 hok _ (str_u8i _), hf]
theorem back6 (n : Int) (t : List Int) (ls : List ByteArray) (hf : faultP ⟨6, n, t, ls⟩ = 0) : Backs 6 ⟨6, n, t, ls⟩ [] := by
  rw [faultP_6] at hf
  unfold Backs
  rw [rKind_6, bytesP_6, show ownP ⟨6, n, t, ls⟩ = ⟨6, 0, t, []⟩ from rfl, List.append_nil]
  unfold rRest
  rw [hf]
theorem kind_back (p : PF) (tl : List Int) (h1 : 1 ≤ p.kind) (h6 : p.kind ≤ 6) (hn : 0 ≤ p.n ∧ p.n ≤ 4294967295) (hf : faultP p = 0) (hlast : p.kind = 6 → tl = []) : Backs p.kind.toNat p tl := by
  obtain ⟨k, n, t, ls⟩ := p
  dsimp only at h1 h6 hn hlast ⊢
  have hk : k = 1 ∨ k = 2 ∨ k = 3 ∨ k = 4 ∨ k = 5 ∨ k = 6 := by omega
  rcases hk with rfl | rfl | rfl | rfl | rfl | rfl
  · exact back1 n t ls tl hn.1 hf
  · exact back2 n t ls tl hn.1 hf
  · exact back3 n t ls tl hn
  · exact back4 n t ls tl hf
  · exact back5 n t ls tl hf
  · obtain rfl := hlast rfl
    exact back6 n t ls hf
theorem readFrom_back : ∀ (ps : List PF) (acc : List PF), (∀ p ∈ ps, (1 ≤ p.kind ∧ p.kind ≤ 6) ∧ faultP p = 0 ∧ 0 ≤ p.n ∧ p.n ≤ 4294967295) → (∀ i p, ps[i]? = some p → p.kind = 6 → i + 1 = ps.length) →
    readFrom (ps.map (·.kind)) (ps.flatMap bytesP) acc = (0, acc ++ ps.map ownP)
  | [], acc, _, _ => by simp [readFrom]
  | p :: ps, acc, h, hl => by
    obtain ⟨hk, hf, hn⟩ := h p (by simp)
    have hlast : p.kind = 6 → ps.flatMap bytesP = [] := fun h6 => by
      have := hl 0 p rfl h6
      simp at this
      rw [this]; rfl
    have hb := kind_back p (ps.flatMap bytesP) hk.1 hk.2 hn hf hlast
    unfold Backs at hb
    rw [List.map_cons, List.flatMap_cons]
    unfold readFrom
    rw [hb]
    rw [if_neg (by simp)]
    dsimp only
    rw [readFrom_back ps _ (fun q hq => h q (by simp [hq])) (fun i q hq h6 => by have := hl (i + 1) q (by simpa using hq) h6; simp at this; omega)]
    rw [List.map_cons, List.append_assoc]
    rfl
/-- What is written is read, with what the kinds name. -/
theorem back_law (ps : List PF) (h : OkP ps) (hn : ∀ p ∈ ps, 0 ≤ p.n ∧ p.n ≤ 4294967295) : readP (ps.map (·.kind)) (ps.flatMap bytesP) = (0, ps.map ownP) := by
  unfold readP
  rw [if_pos h.1]
  refine readFrom_back ps [] (fun p hp => ⟨rowOk_range h.1 p.kind (List.mem_map_of_mem hp), h.2.1 p hp, hn p hp⟩) (fun i p hp h6 => ?_)
  have hi : i < ps.length := (List.getElem?_eq_some_iff.1 hp).1
  have := rowOk_iff.1 h.1 i (by rw [List.length_map]; exact hi)
  unfold goodAt at this
  rw [show (ps.map (·.kind)).getD i 0 = 6 by simp [List.getD, hp, h6]] at this
  simp at this
  have := this.2
  omega
theorem sizeP_ok {p : PF} (h1 : 1 ≤ p.kind) (h6 : p.kind ≤ 6) (hf : faultP p = 0) : sizeP p = (bytesP p).length := if_pos ⟨h1, h6, hf⟩
theorem bytesP_range {p : PF} (h : InB p.text) : InB (bytesP p) := by
  unfold bytesP
  split
  · intro x hx; simp at hx; omega
  split
  · intro x hx; simp at hx; omega
  split
  · exact four_range _
  split
  · intro x hx
    rcases List.mem_append.1 hx with hx | hx
    · exact four_range _ x hx
    · exact h x hx
  split
  · intro x hx
    rcases List.mem_append.1 hx with hx | hx
    · exact four_range _ x hx
    · exact u8i_range _ x hx
  · exact h
end Go.Proofs.YtkgikodiecmakaaGreatDoor
