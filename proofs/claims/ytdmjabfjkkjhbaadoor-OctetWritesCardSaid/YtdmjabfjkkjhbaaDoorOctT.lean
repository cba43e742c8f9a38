/- Layer 1: the laws of what Write answers: of fields, and of fields in two parts. -/
import Derived.Test.YtdmjabfjkkjhbaaDoorOctR
namespace Go.Proofs.YtdmjabfjkkjhbaaDoor
set_option linter.all false
open Go.RowKit

/-- Fields that can be written. -/
def OkP (ps : List PF) : Prop := rowOk (ps.map (·.kind)) = true ∧ (∀ p ∈ ps, faultP p = 0) ∧ (ps.flatMap bytesP).length ≤ 33792
theorem writeFrom_ok : ∀ (ps : List PF) (acc : List Int), (∀ p ∈ ps, faultP p = 0) → (acc ++ ps.flatMap bytesP).length ≤ 33792 → writeFrom ps acc = (0, acc ++ ps.flatMap bytesP)
  | [], acc, _, _ => by simp [writeFrom]
  | p :: ps, acc, h1, h2 => by
    have e := h1 p (by simp)
    rw [List.flatMap_cons, ← List.append_assoc] at h2 ⊢
    have h3 : ¬ 33792 < (acc ++ bytesP p).length := by
      rw [List.length_append] at h2
      omega
    unfold writeFrom
    rw [if_neg (by simp [e]), if_neg h3]
    exact writeFrom_ok ps _ (fun q hq => h1 q (by simp [hq])) h2
theorem writeFrom_bad : ∀ (ps : List PF) (acc : List Int), ¬ ((∀ p ∈ ps, faultP p = 0) ∧ (acc ++ ps.flatMap bytesP).length ≤ 33792) → acc.length ≤ 33792 → ∃ e, e ≠ 0 ∧ writeFrom ps acc = (e, [])
  | [], acc, h, ha => by
    refine absurd ⟨fun p hp => by simp at hp, ?_⟩ h
    simpa using ha
  | p :: ps, acc, h, ha => by
    unfold writeFrom
    by_cases e : faultP p = 0
    · rw [if_neg (by simp [e])]
      by_cases h3 : 33792 < (acc ++ bytesP p).length
      · rw [if_pos h3]
        exact ⟨6, by decide, rfl⟩
      · rw [if_neg h3]
        refine writeFrom_bad ps _ (fun ⟨h4, h5⟩ => h ⟨fun q hq => ?_, ?_⟩) (by omega)
        · rcases List.mem_cons.1 hq with rfl | hq
          · exact e
          · exact h4 q hq
        · rw [List.flatMap_cons, ← List.append_assoc]
          exact h5
    · rw [if_pos e]
      exact ⟨_, e, rfl⟩
theorem writeP_ok {ps : List PF} (h : OkP ps) : writeP ps = (0, ps.flatMap bytesP) := by
  unfold writeP
  rw [if_pos h.1]
  have := writeFrom_ok ps [] h.2.1 (by simpa using h.2.2)
  simpa using this
theorem writeP_bad {ps : List PF} (h : ¬ OkP ps) : ∃ e, e ≠ 0 ∧ writeP ps = (e, []) := by
  unfold writeP
  by_cases hr : rowOk (ps.map (·.kind)) = true
  · rw [if_pos hr]
    exact writeFrom_bad ps [] (fun ⟨h1, h2⟩ => h ⟨hr, h1, by simpa using h2⟩) (by simp)
  · rw [if_neg hr]
    exact ⟨2, by decide, rfl⟩
theorem writeP_len {ps : List PF} : (writeP ps).2.length ≤ 33792 := by
  by_cases h : OkP ps
  · rw [writeP_ok h]; exact h.2.2
  · obtain ⟨e, _, h2⟩ := writeP_bad h
    rw [h2]; simp
theorem goodAt_take {ks : List Int} {k i : Nat} (hi : i < k) (h : goodAt ks i = true) : goodAt (ks.take k) i = true := by
  have e : (ks.take k).getD i 0 = ks.getD i 0 := by
    simp only [List.getD_eq_getElem?_getD, List.getElem?_take, hi, if_true]
  unfold goodAt at h ⊢
  rw [e]
  simp only [Bool.and_eq_true, Bool.not_eq_true', Bool.and_eq_false_iff, decide_eq_false_iff_not] at h ⊢
  refine ⟨h.1, ?_⟩
  rcases h.2 with h2 | h2
  · exact .inl h2
  · right
    rw [List.length_take]
    omega
theorem goodAt_drop {ks : List Int} {k i : Nat} : goodAt (ks.drop k) i = goodAt ks (k + i) := by
  unfold goodAt
  have e : (ks.drop k).getD i 0 = ks.getD (k + i) 0 := by simp [List.getD_eq_getElem?_getD, List.getElem?_drop]
  have e2 : decide (i + 1 < (ks.drop k).length) = decide (k + i + 1 < ks.length) := by
    rw [List.length_drop]
    simp only [decide_eq_decide]
    omega
  rw [e, e2]
theorem rowOk_take {ks : List Int} (k : Nat) (h : rowOk ks = true) : rowOk (ks.take k) = true := by
  rw [rowOk_iff] at h ⊢
  intro i hi
  rw [List.length_take] at hi
  exact goodAt_take (by omega) (h i (by omega))
theorem rowOk_drop {ks : List Int} (k : Nat) (h : rowOk ks = true) : rowOk (ks.drop k) = true := by
  rw [rowOk_iff] at h ⊢
  intro i hi
  rw [List.length_drop] at hi
  rw [goodAt_drop]
  exact h (k + i) (by omega)
theorem rowOk_join {ks : List Int} {k : Nat} (hk : k ≤ ks.length) (h1 : rowOk (ks.take k) = true) (h2 : rowOk (ks.drop k) = true) (h3 : ¬ (0 < k ∧ ks.getD (k - 1) 0 = 6)) : rowOk ks = true := by
  rw [rowOk_iff] at h1 h2 ⊢
  intro i hi
  by_cases hik : i < k
  · have g := h1 i (by rw [List.length_take]; omega)
    have e : (ks.take k).getD i 0 = ks.getD i 0 := by
      simp only [List.getD_eq_getElem?_getD, List.getElem?_take, hik, if_true]
    unfold goodAt at g ⊢
    rw [e] at g
    simp only [Bool.and_eq_true, Bool.not_eq_true', Bool.and_eq_false_iff, decide_eq_false_iff_not] at g ⊢
    refine ⟨g.1, ?_⟩
    rcases g.2 with g2 | g2
    · exact .inl g2
    · left
      intro h6
      rw [List.length_take] at g2
      have : i = k - 1 := by omega
      rw [this] at h6
      exact h3 ⟨by omega, h6⟩
  · have := h2 (i - k) (by rw [List.length_drop]; omega)
    rw [goodAt_drop] at this
    rw [show k + (i - k) = i by omega] at this
    exact this

/-- What is written in two parts is what is written at once. -/
theorem joins_law (ps : List PF) (k : Nat) (hk : k ≤ ps.length) :
    if (writeP ps).1 = 0 then (writeP (ps.take k)).1 = 0 ∧ (writeP (ps.drop k)).1 = 0 ∧ (writeP ps).2 = (writeP (ps.take k)).2 ++ (writeP (ps.drop k)).2
    else (writeP (ps.take k)).1 ≠ 0 ∨ (writeP (ps.drop k)).1 ≠ 0 ∨ 33792 < (writeP (ps.take k)).2.length + (writeP (ps.drop k)).2.length ∨ (0 < k ∧ (ps.map (·.kind)).getD (k - 1) 0 = 6) := by
  have hf : ps.flatMap bytesP = (ps.take k).flatMap bytesP ++ (ps.drop k).flatMap bytesP := by
    rw [← List.flatMap_append, List.take_append_drop]
  have ha : ∀ p ∈ ps, p ∈ ps.take k ∨ p ∈ ps.drop k := fun p hp => by
    rw [← List.mem_append, List.take_append_drop]
    exact hp
  by_cases h : OkP ps
  · have h1 : OkP (ps.take k) := ⟨by rw [List.map_take]; exact rowOk_take k h.1, fun p hp => h.2.1 p (List.mem_of_mem_take hp), by have := h.2.2; rw [hf, List.length_append] at this; omega⟩
    have h2 : OkP (ps.drop k) := ⟨by rw [List.map_drop]; exact rowOk_drop k h.1, fun p hp => h.2.1 p (List.mem_of_mem_drop hp), by have := h.2.2; rw [hf, List.length_append] at this; omega⟩
    rw [writeP_ok h, writeP_ok h1, writeP_ok h2]
    exact ⟨rfl, rfl, hf⟩
  · obtain ⟨e, he, h0⟩ := writeP_bad h
    rw [h0]
    dsimp only
    rw [if_neg he]
    by_cases h1 : OkP (ps.take k)
    · by_cases h2 : OkP (ps.drop k)
      · right; right
        by_cases h3 : 0 < k ∧ (ps.map (·.kind)).getD (k - 1) 0 = 6
        · exact .inr h3
        · left
          rw [writeP_ok h1, writeP_ok h2]
          dsimp only
          have hr := rowOk_join (ks := ps.map (·.kind)) (k := k) (by rw [List.length_map]; exact hk) (by rw [← List.map_take]; exact h1.1) (by rw [← List.map_drop]; exact h2.1) h3
          have hn : ¬ (ps.flatMap bytesP).length ≤ 33792 := fun h4 => h ⟨hr, fun p hp => (ha p hp).elim (h1.2.1 p) (h2.2.1 p), h4⟩
          rw [hf, List.length_append] at hn
          omega
      · obtain ⟨e2, he2, h4⟩ := writeP_bad h2
        rw [h4]
        exact .inr (.inl he2)
    · obtain ⟨e2, he2, h4⟩ := writeP_bad h1
      rw [h4]
      exact .inl he2
end Go.Proofs.YtdmjabfjkkjhbaaDoor
