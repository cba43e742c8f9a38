/- Layer 17: what a step's events are; what a step on a terminal that is hung leaves: the plain laws. No condition. -/
import Derived.Test.YtnfcdbjckdhieaaGreatPtK
namespace Go.Proofs.YtnfcdbjckdhieaaGreat
set_option linter.all false
set_option maxRecDepth 100000
open Go.RowKit

def sigOk (s : Int) : Prop := s = 1 ∨ s = 18 ∨ s = 2 ∨ s = 3 ∨ s = 20 ∨ s = 28
theorem evL_mem {grp : Int} {l : List Int} {e : Int × Int} (h : e ∈ evL grp l) : grp ≠ 0 ∧ e.1 = grp ∧ e.2 ∈ l := by
  unfold evL at h
  split at h
  · cases h
  · rename_i h0
    obtain ⟨s, hs, rfl⟩ := List.mem_map.1 h
    exact ⟨by simpa using h0, rfl, hs⟩
theorem sigN_ok (d : DM) (c : Int) (h : sigN d c > 0) : sigN d c = 2 ∨ sigN d c = 3 ∨ sigN d c = 20 := by
  unfold sigN at h ⊢
  repeat' split at h
  all_goals simp_all
theorem inputD_sig {d : DM} {c s : Int} (h : s ∈ (inputD d c).2) : s = 2 ∨ s = 3 ∨ s = 20 := by
  unfold inputD at h
  split at h
  · cases h
  · split at h
    · cases h
    · split at h
      · rename_i h1
        rw [List.mem_singleton.1 h]
        exact sigN_ok _ _ h1
      · split at h <;> cases h
theorem typeD_sig : ∀ (l : List Int) {d : DM} {s : Int}, s ∈ (typeD d l).2.2 → s = 2 ∨ s = 3 ∨ s = 20
  | [], d, s, h => by cases h
  | c :: l, d, s, h => by
    unfold typeD at h
    split at h
    · cases h
    · rcases List.mem_append.1 h with h | h
      · exact inputD_sig h
      · exact typeD_sig l h
theorem doP_cases {x : PM} {d : DM} {o : OQ} {M : PM × DM × PA → Prop} (h1 : o.k = 1 → M (x, (mwriteP x d o.b).1, ⟨[], (mwriteP x d o.b).2.1, 0, evL x.grp (mwriteP x d o.b).2.2⟩)) (h2 : o.k = 2 → M (x, (mreadP x d o.n).1, ⟨(mreadP x d o.n).2.1, 0, (mreadP x d o.n).2.2, []⟩)) (h3 : o.k = 3 → M ((openP x).1, d, ⟨[], 0, (openP x).2, []⟩)) (h4 : o.k = 4 → M ((closeP x).1, d, ⟨[], 0, (closeP x).2, []⟩)) (h5 : o.k = 5 → M (x, (sreadP x d o.n o.q).1, ⟨(sreadP x d o.n o.q).2.1, 0, (sreadP x d o.n o.q).2.2, []⟩)) (h6 : o.k = 6 → M (x, (swriteP x d o.b).1, ⟨[], (swriteP x d o.b).2.1, (swriteP x d o.b).2.2, []⟩)) (h7 : o.k = 7 → M (x, (attrP x d o.n o.t).1, ⟨[], 0, (attrP x d o.n o.t).2, []⟩)) (h8 : o.k = 8 → M ((sizeP x o.z).1, d, ⟨[], 0, 0, (sizeP x o.z).2⟩)) (h9 : o.k = 9 → M ((bindP x o.n o.q).1, d, ⟨[], 0, (bindP x o.n o.q).2, []⟩)) (h10 : o.k = 10 → M ((groupP x o.n).1, d, ⟨[], 0, (groupP x o.n).2, []⟩)) (h11 : o.k = 11 → M ((hangP x d).1, (hangP x d).2.1, ⟨[], 0, 0, (hangP x d).2.2⟩)) (h0 : (o.k < 1 ∨ 11 < o.k) → M (x, d, ⟨[], 0, 0, []⟩)) : M (doP x d o) := by
  unfold doP
  by_cases c1 : (o.k == 1) = true
  · rw [if_pos c1]; exact h1 (by simpa using c1)
  rw [if_neg c1]
  by_cases c2 : (o.k == 2) = true
  · rw [if_pos c2]; exact h2 (by simpa using c2)
  rw [if_neg c2]
  by_cases c3 : (o.k == 3) = true
  · rw [if_pos c3]; exact h3 (by simpa using c3)
  rw [if_neg c3]
  by_cases c4 : (o.k == 4) = true
  · rw [if_pos c4]; exact h4 (by simpa using c4)
  rw [if_neg c4]
  by_cases c5 : (o.k == 5) = true
  · rw [if_pos c5]; exact h5 (by simpa using c5)
  rw [if_neg c5]
  by_cases c6 : (o.k == 6) = true
  · rw [if_pos c6]; exact h6 (by simpa using c6)
  rw [if_neg c6]
  by_cases c7 : (o.k == 7) = true
  · rw [if_pos c7]; exact h7 (by simpa using c7)
  rw [if_neg c7]
  by_cases c8 : (o.k == 8) = true
  · rw [if_pos c8]; exact h8 (by simpa using c8)
  rw [if_neg c8]
  by_cases c9 : (o.k == 9) = true
  · rw [if_pos c9]; exact h9 (by simpa using c9)
  rw [if_neg c9]
  by_cases c10 : (o.k == 10) = true
  · rw [if_pos c10]; exact h10 (by simpa using c10)
  rw [if_neg c10]
  by_cases c11 : (o.k == 11) = true
  · rw [if_pos c11]; exact h11 (by simpa using c11)
  rw [if_neg c11]
  exact h0 (by simp at c1 c2 c3 c4 c5 c6 c7 c8 c9 c10 c11; omega)
theorem doP_ev {x : PM} {d : DM} {o : OQ} {e : Int × Int} : e ∈ (doP x d o).2.2.ev → x.grp ≠ 0 ∧ e.1 = x.grp ∧ sigOk e.2 := by
  have key : ∀ {l : List Int}, (∀ s ∈ l, sigOk s) → e ∈ evL x.grp l → x.grp ≠ 0 ∧ e.1 = x.grp ∧ sigOk e.2 := fun hl h => ⟨(evL_mem h).1, (evL_mem h).2.1, hl _ (evL_mem h).2.2⟩
  have no : e ∈ ([] : List (Int × Int)) → x.grp ≠ 0 ∧ e.1 = x.grp ∧ sigOk e.2 := fun h => by cases h
  refine doP_cases (M := fun r => e ∈ r.2.2.ev → x.grp ≠ 0 ∧ e.1 = x.grp ∧ sigOk e.2) (fun _ h => ?_) (fun _ => no) (fun _ => no) (fun _ => no) (fun _ => no) (fun _ => no) (fun _ => no) (fun _ h => ?_) (fun _ => no) (fun _ => no) (fun _ h => ?_) (fun _ => no)
  · refine key (fun s hs => ?_) h
    have hs : s ∈ (mwriteP x d o.b).2.2 := hs
    unfold mwriteP at hs
    split at hs
    · cases hs
    · rcases typeD_sig o.b hs with rfl | rfl | rfl
      · exact .inr (.inr (.inl rfl))
      · exact .inr (.inr (.inr (.inl rfl)))
      · exact .inr (.inr (.inr (.inr (.inl rfl))))
  · have h : e ∈ (sizeP x o.z).2 := h
    unfold sizeP at h
    split at h
    · cases h
    · exact key (by intro s hs; rw [List.mem_singleton.1 hs]; exact .inr (.inr (.inr (.inr (.inr rfl))))) h
  · have h : e ∈ (hangP x d).2.2 := h
    unfold hangP at h
    split at h
    · cases h
    · refine key (fun s hs => ?_) h
      simp only [List.mem_cons, List.not_mem_nil, or_false] at hs
      rcases hs with rfl | rfl
      · exact .inl rfl
      · exact .inr (.inl rfl)
theorem attrP_iv {n : Nat} {x : PM} {d : DM} {k : Int} {t : TM} (ht : TOk t) (h : Iv n d) : Iv (n + 1) (attrP x d k t).1 := by
  have up : Iv (n + 1) d := h.mono (Nat.le_add_right n 1)
  unfold attrP
  split
  · exact up
  split
  · exact up
  split
  · exact up
  split
  · exact up
  · refine setD_iv ht.mn ht.tm ?_
    split
    · exact flushD_iv h
    · exact h
theorem doP_iv {n : Nat} {x : PM} {d : DM} {o : OQ} (hn : 4098 ≤ n) (ho : OQOk o) (h : Iv n d) : Iv (n + 1) (doP x d o).2.1 := by
  have up : ∀ {d : DM}, Iv n d → Iv (n + 1) d := fun h => h.mono (Nat.le_add_right n 1)
  have e1 : Iv n (mwriteP x d o.b).1 := by
    unfold mwriteP
    split
    · exact h
    · exact typeD_iv hn o.b h
  have e2 : Iv n (mreadP x d o.n).1 := by
    unfold mreadP
    have := outputD_iv (k := o.n) h
    repeat' split
    all_goals first | exact h | exact this
  have e5 : Iv n (sreadP x d o.n o.q).1 := by
    unfold sreadP
    have := readD_iv (k := o.n) (q := o.q) h
    repeat' split
    all_goals first | exact h | exact this
  have e6 : Iv n (swriteP x d o.b).1 := by
    unfold swriteP
    have := writeD_iv (l := o.b) h
    repeat' split
    all_goals first | exact h | exact this
  have e11 : Iv n (hangP x d).2.1 := by
    unfold hangP
    split
    · exact h
    · exact flushD_iv h
  exact doP_cases (M := fun r => Iv (n + 1) r.2.1) (fun _ => up e1) (fun _ => up e2) (fun _ => up h) (fun _ => up h) (fun _ => up e5) (fun _ => up e6) (fun _ => attrP_iv ho.t h) (fun _ => up h) (fun _ => up h) (fun _ => up h) (fun _ => up e11) (fun _ => up h)
/-- What a step on a terminal that is hung answers. -/
structure HungOk (k : Int) (a : PA) : Prop where
  b : a.b = []
  k1 : k = 1 → a.n = 0 ∧ a.ev = []
  k2 : k = 2 ∨ k = 3 ∨ k = 6 → a.e = 11
  k5 : k = 5 → a.e = 0
  k11 : k = 11 → a.ev = []
theorem evL_nil (grp : Int) : evL grp [] = [] := by unfold evL; split <;> rfl
theorem doP_hung {x : PM} {d : DM} {o : OQ} (hx : x.hung = true) : (doP x d o).1.hung = true ∧ (doP x d o).2.1 = d ∧ HungOk o.k (doP x d o).2.2 := by
  have e1 : mwriteP x d o.b = (d, 0, []) := by unfold mwriteP; rw [if_pos hx]
  have e2 : mreadP x d o.n = (d, [], 11) := by unfold mreadP; rw [if_pos hx]
  have e3 : openP x = (x, 11) := by unfold openP; rw [if_pos hx]
  have e4 : (closeP x).1.hung = true := by unfold closeP; split <;> exact hx
  have e5 : sreadP x d o.n o.q = (d, [], 0) := by unfold sreadP; rw [if_pos hx]
  have e6 : swriteP x d o.b = (d, 0, 11) := by unfold swriteP; rw [if_pos hx]
  have e7 : (attrP x d o.n o.t).1 = d := by
    unfold attrP
    by_cases h : o.n < 1 ∨ o.n > 3
    · rw [if_pos h]
    · rw [if_neg h, if_pos hx]
  have e8 : (sizeP x o.z).1.hung = true := by unfold sizeP; split <;> exact hx
  have e9 : (bindP x o.n o.q).1.hung = true := by
    unfold bindP
    split
    · exact hx
    · split <;> exact hx
  have e10 : (groupP x o.n).1.hung = true := by
    unfold groupP
    split
    · exact hx
    · split <;> exact hx
  have e11 : hangP x d = (x, d, []) := by unfold hangP; rw [if_pos hx]
  have hk : ∀ {a : PA} (k : Int), o.k = k → a.b = [] → (k = 1 → a.n = 0 ∧ a.ev = []) → (k = 2 ∨ k = 3 ∨ k = 6 → a.e = 11) → (k = 5 → a.e = 0) → (k = 11 → a.ev = []) → HungOk o.k a := fun k e h1 h2 h3 h4 h5 => by rw [e]; exact ⟨h1, h2, h3, h4, h5⟩
  refine doP_cases (M := fun r => r.1.hung = true ∧ r.2.1 = d ∧ HungOk o.k r.2.2) (fun e => ?_) (fun e => ?_) (fun e => ?_) (fun e => ?_) (fun e => ?_) (fun e => ?_) (fun e => ?_) (fun e => ?_) (fun e => ?_) (fun e => ?_) (fun e => ?_) (fun e => ?_)
  · rw [e1, evL_nil]; exact ⟨hx, rfl, hk 1 e rfl (fun _ => ⟨rfl, rfl⟩) (by omega) (by omega) (fun _ => rfl)⟩
  · rw [e2]; exact ⟨hx, rfl, hk 2 e rfl (by omega) (fun _ => rfl) (by omega) (fun _ => rfl)⟩
  · rw [e3]; exact ⟨hx, rfl, hk 3 e rfl (by omega) (fun _ => rfl) (by omega) (fun _ => rfl)⟩
  · exact ⟨e4, rfl, hk 4 e rfl (by omega) (by omega) (by omega) (fun _ => rfl)⟩
  · rw [e5]; exact ⟨hx, rfl, hk 5 e rfl (by omega) (by omega) (fun _ => rfl) (fun _ => rfl)⟩
  · rw [e6]; exact ⟨hx, rfl, hk 6 e rfl (by omega) (fun _ => rfl) (by omega) (fun _ => rfl)⟩
  · exact ⟨hx, e7, hk 7 e rfl (by omega) (by omega) (by omega) (fun _ => rfl)⟩
  · exact ⟨e8, rfl, hk 8 e rfl (by omega) (by omega) (by omega) (by omega)⟩
  · exact ⟨e9, rfl, hk 9 e rfl (by omega) (by omega) (by omega) (fun _ => rfl)⟩
  · exact ⟨e10, rfl, hk 10 e rfl (by omega) (by omega) (by omega) (fun _ => rfl)⟩
  · rw [e11]; exact ⟨hx, rfl, hk 11 e rfl (by omega) (by omega) (by omega) (fun _ => rfl)⟩
  · exact ⟨hx, rfl, hk o.k rfl rfl (by omega) (by omega) (by omega) (fun _ => rfl)⟩
/-- What a hangup leaves. -/
theorem hangP_hung (x : PM) (d : DM) : (hangP x d).1.hung = true ∧ (x.hung = true → (hangP x d).2.2 = []) ∧ (x.hung = false → x.grp ≠ 0 → (hangP x d).2.2.length = 2) ∧ (x.hung = false → (hangP x d).2.1.out = [] ∧ usedD (hangP x d).2.1 = 0) := by
  unfold hangP
  split
  · rename_i h
    exact ⟨h, fun _ => rfl, fun h' => (by rw [h] at h'; cases h'), fun h' => (by rw [h] at h'; cases h')⟩
  · rename_i h
    refine ⟨rfl, fun h' => absurd h' h, fun _ hg => ?_, fun _ => ?_⟩
    · show (evL x.grp [1, 18]).length = 2
      unfold evL
      rw [if_neg (by simpa using hg)]
      rfl
    · exact ⟨rfl, rfl⟩
end Go.Proofs.YtnfcdbjckdhieaaGreat
