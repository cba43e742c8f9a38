/- Layer 26: what comes for one channel changes no other one; plain laws; no condition. -/
import Derived.Test.YtbamojbkehnmkaaMuxL
namespace Go.Proofs.Ytbamojbkehnmkaa
set_option linter.all false
set_option maxRecDepth 100000
open Go.RowKit

theorem getL_find (k : Int) (l : List CH) : getL k l = match l.find? (locP k) with
    | some c => (c, true)
    | none => (CH.zero, false) := by
  unfold getL
  induction l with
  | nil => simp [ixI]
  | cons a l ih =>
    rw [List.find?_cons]
    have hlo := ixI_lo (locP k) l
    cases ha : locP k a with
    | true => simp [ixI, ha]
    | false =>
      rw [← ih]
      have e : ixI (locP k) (a :: l) = if ixI (locP k) l < 0 then -1 else ixI (locP k) l + 1 := by
        show (if locP k a then 0 else _) = _
        rw [ha, if_neg (by simp)]
      rw [e]
      clear e ih
      generalize ixI (locP k) l = j at *
      by_cases h : j < 0
      · rw [if_pos h]
        have h1 : (-1 : Int) < 0 := by decide
        simp only [if_pos h, if_pos h1]
        cases (a :: l)[(-1 : Int).toNat]? <;> cases l[j.toNat]? <;> rfl
      · have h1 : ¬ j + 1 < 0 := by omega
        rw [if_neg h, show (j + 1).toNat = j.toNat + 1 by omega, List.getElem?_cons_succ]
        simp only [if_neg h, if_neg h1]
theorem get_mem {c : CH} {l : List CH} (h : c ∈ l) : ∃ d, getL c.loc l = (d, true) ∧ d ∈ l ∧ d.loc = c.loc := by
  rw [getL_find]
  cases hf : l.find? (locP c.loc) with
  | none =>
    have := List.find?_eq_none.1 hf c h
    simp [locP] at this
  | some d => exact ⟨d, rfl, List.mem_of_find?_eq_some hf, by have := List.find?_some hf; simpa [locP] using this⟩
theorem find_ins {p : CH → Bool} {i : Nat} {c : CH} {l : List CH} (hp : p c = false) : (insL i c l).find? p = l.find? p := by
  unfold insL
  rw [List.find?_append, List.find?_cons, hp, ← List.find?_append, List.take_append_drop]
theorem find_set {p : CH → Bool} {i : Nat} {c d : CH} {l : List CH} (hc : l[i]? = some c) (hp : p c = false) (hd : p d = false) : (l.set i d).find? p = l.find? p := by
  have hi := (List.getElem?_eq_some_iff.1 hc).1
  induction l generalizing i with
  | nil => simp at hc
  | cons a l ih =>
    cases i with
    | zero =>
      simp at hc; subst hc
      simp [List.find?_cons, hp, hd]
    | succ i =>
      simp only [List.set_cons_succ, List.find?_cons]
      rw [ih (by simpa using hc) (by simpa using hi)]
theorem pigeon : ∀ (n : Nat) (L : List Int), (∀ k : Nat, k < n → (k : Int) ∈ L) → n ≤ L.length
  | 0, _, _ => Nat.zero_le _
  | n + 1, L, h => by
    have hn := h n (by omega)
    have ih := pigeon n (L.erase n) fun k hk => (List.mem_erase_of_ne (by omega)).2 (h k (by omega))
    rw [List.length_erase_of_mem hn] at ih
    have := List.length_pos_of_mem hn
    omega
theorem freeN_new {l : List CH} {c : CH} (h : c ∈ l) : c.loc ≠ freeN l := fun he => by
  unfold freeN at he
  cases hf : (List.range l.length).find? fun (n : Nat) => decide (ixI (locP (n : Int)) l < 0) with
  | some n =>
    rw [hf] at he
    have h1 : ixI (locP (n : Int)) l < 0 := by have := List.find?_some hf; simpa using this
    have h2 := (ixI_any (p := locP (n : Int)) (l := l)).2 (List.any_eq_true.2 ⟨c, h, by simpa [locP] using he⟩)
    omega
  | none =>
    rw [hf] at he
    have := pigeon (l.length + 1) (l.map (·.loc)) fun k hk => by
      rcases Nat.lt_or_ge k l.length with hlt | hge
      · have h1 := List.find?_eq_none.1 hf k (by simpa using hlt)
        have h2 : 0 ≤ ixI (locP (k : Int)) l := by simpa using h1
        obtain ⟨d, hd1, hd2⟩ := List.any_eq_true.1 ((ixI_any (p := locP (k : Int)) (l := l)).1 h2)
        exact List.mem_map.2 ⟨d, hd1, by simpa [locP] using hd2⟩
      · obtain rfl : k = l.length := by omega
        exact List.mem_map.2 ⟨c, h, by simpa using he⟩
    simp only [List.length_map] at this
    omega
theorem take_apart {l : List CH} {lim : Int} {dead : Bool} {m : MD} {c : CH} (h : c ∈ l) (hc : c.loc ≠ m.chan) : getL c.loc (takeR l lim dead m).l = getL c.loc l := by
  have hcm : ∀ k, getL c.loc (comesR l m k).l = getL c.loc l := fun k => by
    unfold comesR wrongR
    split
    · rfl
    · rename_i d hd
      split
      · rfl
      · rename_i hi
        split
        · rfl
        · obtain ⟨d', hd1, hd2, _⟩ := ixI_get (p := locP m.chan) (l := l) (by omega)
          rw [hd] at hd1
          injection hd1 with hd1
          subst hd1
          have hl : d.loc = m.chan := by simpa [locP] using hd2
          have hp : locP c.loc d = false := by simp [locP, hl, Ne.symm hc]
          have hr : locP c.loc (recvC d m.kind m.window m.want m.data.length).1 = false := by
            simp [locP, (recvC_loc d m.kind m.window m.want m.data.length).1, hl, Ne.symm hc]
          rw [getL_find, getL_find]
          dsimp only
          rw [find_set hd hp hr]
  have hop : getL c.loc (openR l lim m).l = getL c.loc l := by
    unfold openR wrongR
    repeat' split
    all_goals first
      | rfl
      | (rw [getL_find, getL_find, find_ins]
         have := freeN_new h
         simp [locP, newC, Ne.symm this])
  unfold takeR
  split
  · rfl
  split
  · rfl
  split
  · rfl
  split
  · exact hop
  repeat' (split; exact hcm _)
  rfl
end Go.Proofs.Ytbamojbkehnmkaa
