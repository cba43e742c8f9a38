/- Layer 1: the laws of cutting at commas and joining, of numbers in four bytes. -/
import Derived.Test.YtdmjabfjkkjhbaaDoorOctR
import Derived.Lib.SplitLaws
namespace Go.Proofs.YtdmjabfjkkjhbaaDoor
set_option linter.all false
open Go.RowKit

/-- A text cut at its commas. -/
def cutL : List UInt8 → List (List UInt8)
  | [] => [[]]
  | c :: s => if c = 44 then [] :: cutL s else (c :: (cutL s).headD []) :: (cutL s).tail
theorem cutL_ne (s : List UInt8) : ∃ h t, cutL s = h :: t := by
  cases s with
  | nil => exact ⟨[], [], rfl⟩
  | cons c s =>
    unfold cutL
    split
    · exact ⟨_, _, rfl⟩
    · exact ⟨_, _, rfl⟩
theorem idx_cons (c : UInt8) (l : List UInt8) (h : c ≠ 44) : Lib.index (c :: l) [44] = if Lib.index l [44] == -1 then -1 else Lib.index l [44] + 1 := by
  have hp : ([44] : List UInt8).isPrefixOf (c :: l) = false := by simp [List.isPrefixOf, Ne.symm h]
  rw [Lib.index, hp]; simp
theorem splitK_cut : ∀ s : List UInt8, Lib.splitK [44] 0 (Lib.count s [44]) s = cutL s
  | [] => by
    rw [Lib.count_miss (by simp [Lib.index])]
    rfl
  | c :: l => by
    have ih := splitK_cut l
    by_cases h : c = 44
    · subst h
      rw [Lib.count_cons_eq, Nat.add_comm]
      have hix : Lib.index (44 :: l) [44] = 0 := by rw [Lib.index]; simp [List.isPrefixOf]
      unfold Lib.splitK cutL
      rw [hix]
      simp [ih]
    · rw [Lib.count_cons_ne c 44 l h]
      have hix := idx_cons c l h
      unfold cutL
      rw [if_neg h]
      by_cases hm : Lib.index l [44] = -1
      · rw [Lib.count_miss hm] at ih ⊢
        rw [← ih]
        rfl
      · have hge := Lib.index_ge l [44]
        obtain ⟨j, hj⟩ : ∃ j : Nat, Lib.index l [44] = j := ⟨(Lib.index l [44]).toNat, by omega⟩
        have hix' : Lib.index (c :: l) [44] = ((j + 1 : Nat) : Int) := by rw [hix, if_neg (fun e => hm (beq_iff_eq.1 e)), hj]; omega
        rw [Lib.count_hit (by simp) hj, Nat.add_comm 1] at ih ⊢
        rw [← ih]
        unfold Lib.splitK
        rw [hj, hix', if_neg (fun e => by have := beq_iff_eq.1 e; omega), if_neg (fun e => by have := beq_iff_eq.1 e; omega)]
        simp
theorem join_cut (s : List UInt8) : Lib.join (cutL s) [44] = s := by
  induction s with
  | nil => exact Lib.join_one _ _
  | cons c s ih =>
    obtain ⟨h, t, e⟩ := cutL_ne s
    unfold cutL
    rw [e] at ih ⊢
    rw [Lib.join_cons] at ih
    split
    · rename_i hc
      subst hc
      rw [Lib.join_cons]
      simp [Lib.joinTail] at ih ⊢
      exact ih
    · rw [Lib.join_cons]
      simp at ih ⊢
      exact ih
theorem cutL_one {x : List UInt8} (h : ∀ c ∈ x, c ≠ 44) : cutL x = [x] := by
  induction x with
  | nil => rfl
  | cons c x ih =>
    unfold cutL
    rw [if_neg (h c (by simp)), ih (fun d hd => h d (by simp [hd]))]
    rfl
theorem cutL_app {x : List UInt8} (h : ∀ c ∈ x, c ≠ 44) (s : List UInt8) : cutL (x ++ 44 :: s) = x :: cutL s := by
  induction x with
  | nil =>
    rw [List.nil_append]
    conv => lhs; unfold cutL
    rw [if_pos rfl]
  | cons c x ih =>
    rw [List.cons_append]
    conv => lhs; unfold cutL
    rw [if_neg (h c (by simp)), ih (fun d hd => h d (by simp [hd]))]
    rfl
theorem cut_join (x : List UInt8) (r : List (List UInt8)) (h : ∀ y ∈ x :: r, ∀ c ∈ y, c ≠ 44) : cutL (Lib.join (x :: r) [44]) = x :: r := by
  induction r generalizing x with
  | nil => rw [Lib.join_one]; exact cutL_one (h x (by simp))
  | cons y r ih =>
    have e : Lib.join (x :: y :: r) [44] = x ++ 44 :: Lib.join (y :: r) [44] := by
      rw [Lib.join_cons, Lib.join_cons]
      simp [Lib.joinTail]
    rw [e, cutL_app (h x (by simp)), ih y (fun z hz => h z (by simp at hz ⊢; exact .inr hz))]
theorem bytes_ext {x y : ByteArray} (h : x.data.toList = y.data.toList) : x = y := ByteArray.ext (Array.ext' h)
theorem pieces_data (s : ByteArray) : (pieces s).map (·.data.toList) = cutL s.data.toList := by
  unfold pieces
  rw [Lib.splitB_data]
  exact splitK_cut _
theorem pieces_join (s : ByteArray) : joinU (pieces s) = s.data.toList := by
  unfold joinU
  rw [pieces_data]
  exact join_cut _
theorem name_data {s : ByteArray} (h : nameOk s = true) : 1 ≤ s.size ∧ s.size ≤ 64 ∧ ∀ c ∈ s.data.toList, c ≠ 44 := by
  unfold nameOk at h
  simp only [Bool.and_eq_true, decide_eq_true_eq] at h
  refine ⟨h.1.1, h.1.2, fun c hc e => ?_⟩
  have := List.all_eq_true.1 h.2 c hc
  unfold nameC at this
  subst e
  revert this
  decide
theorem join_pieces (l : List ByteArray) (h0 : l ≠ []) (h : ∀ s ∈ l, nameOk s = true) (s : ByteArray) (hs : s.data.toList = joinU l) : pieces s = l := by
  have e : (pieces s).map (·.data.toList) = l.map (·.data.toList) := by
    rw [pieces_data, hs]
    unfold joinU
    cases l with
    | nil => exact absurd rfl h0
    | cons x r =>
      rw [List.map_cons]
      refine cut_join _ _ (fun y hy c hc => ?_)
      have hy : y ∈ (x :: r).map (·.data.toList) := hy
      obtain ⟨z, hz, rfl⟩ := List.mem_map.1 hy
      exact (name_data (h z hz)).2.2 c hc
  exact (List.map_inj_right (fun x y hxy => bytes_ext hxy)).1 e
theorem joinU_ne {l : List ByteArray} (h0 : l ≠ []) (h : ∀ s ∈ l, nameOk s = true) : joinU l ≠ [] := by
  cases l with
  | nil => exact absurd rfl h0
  | cons x r =>
    unfold joinU
    rw [List.map_cons, Lib.join_cons]
    intro e
    have h1 := (name_data (h x (by simp))).1
    have h2 : x.data.toList = [] := List.append_eq_nil_iff.1 e |>.1
    have h3 : x.size = x.data.toList.length := by simp
    rw [h3, h2] at h1
    simp at h1
theorem strOfNums_data (xs : List Int) : (strOfNums xs).data.toList = xs.map fun n => UInt8.ofNat n.toNat := rfl
theorem u8i_str {xs : List Int} (h : ∀ x ∈ xs, 0 ≤ x ∧ x < 256) : u8i (strOfNums xs).data.toList = xs := by
  rw [strOfNums_data]
  unfold u8i
  induction xs with
  | nil => rfl
  | cons a r ih =>
    have ha := h a (by simp)
    rw [List.map_cons, List.map_cons, ih (fun x hx => h x (by simp [hx]))]
    congr 1
    rw [UInt8.toNat_ofNat']
    omega
theorem str_u8i (l : List UInt8) : (strOfNums (u8i l)).data.toList = l := by
  rw [strOfNums_data]
  unfold u8i
  induction l with
  | nil => rfl
  | cons c l ih =>
    rw [List.map_cons, List.map_cons, ih, Int.toNat_natCast, UInt8.ofNat_toNat]
theorem u8i_range (l : List UInt8) : ∀ x ∈ u8i l, 0 ≤ x ∧ x < 256 := by
  intro x hx
  unfold u8i at hx
  obtain ⟨c, _, rfl⟩ := List.mem_map.1 hx
  have := c.toNat_lt
  omega
theorem be4_four (n : Int) (t : List Int) (h0 : 0 ≤ n) (h1 : n ≤ 4294967295) : be4 (four n ++ t) = n := by
  unfold be4 four
  simp
  omega
theorem four_be4 (l : List Int) (h4 : 4 ≤ l.length) (hl : ∀ x ∈ l, 0 ≤ x ∧ x < 256) : four (be4 l) = l.take 4 := by
  match l, h4 with
  | a :: b :: c :: d :: t, _ =>
    have ha := hl a (by simp)
    have hb := hl b (by simp)
    have hc := hl c (by simp)
    have hd := hl d (by simp)
    unfold be4 four
    simp
    omega
theorem four_length (n : Int) : (four n).length = 4 := rfl
theorem four_range (n : Int) : ∀ x ∈ four n, 0 ≤ x ∧ x < 256 := by
  intro x hx
  unfold four at hx
  simp at hx
  omega
end Go.Proofs.YtdmjabfjkkjhbaaDoor
