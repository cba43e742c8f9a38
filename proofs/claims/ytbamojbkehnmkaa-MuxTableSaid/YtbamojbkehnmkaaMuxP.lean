/- Layer 26: at most so many channels, rising by number, of unlike remotes: plain laws; no condition. -/
import Derived.Test.YtbamojbkehnmkaaMuxN
namespace Go.Proofs.Ytbamojbkehnmkaa
set_option linter.all false
set_option maxRecDepth 100000
open Go.RowKit

/-- Few channels, rising by their numbers, of unlike remotes. -/
structure Inv (l : List CH) : Prop where
  len : l.length ≤ 8
  loc : ∀ c ∈ l, c.loc < 8
  up : l.Pairwise fun a b => a.loc < b.loc
  rem : l.Pairwise fun a b => a.rem ≠ b.rem
  ok : ∀ c ∈ l, c.ok
theorem inv_nil : Inv [] := ⟨by simp, by simp, .nil, .nil, by simp⟩
theorem Inv.keep {l : List CH} (h : Inv l) : Inv (keepL l) :=
  ⟨Nat.le_trans (List.length_filter_le _ _) h.len, fun c hc => h.loc c (List.mem_filter.1 hc).1, h.up.filter _, h.rem.filter _, fun c hc => h.ok c (List.mem_filter.1 hc).1⟩
theorem pairwise_set {R : CH → CH → Prop} {l : List CH} {i : Nat} {c d : CH} (hc : l[i]? = some c) (h1 : ∀ x, R x c → R x d) (h2 : ∀ x, R c x → R d x) (h : l.Pairwise R) : (l.set i d).Pairwise R := by
  induction l generalizing i with
  | nil => exact h
  | cons a l ih =>
    rw [List.pairwise_cons] at h
    cases i with
    | zero =>
      simp at hc; subst hc
      exact List.pairwise_cons.2 ⟨fun x hx => h2 x (h.1 x hx), h.2⟩
    | succ i =>
      simp only [List.set_cons_succ]
      refine List.pairwise_cons.2 ⟨fun x hx => ?_, ih (by simpa using hc) h.2⟩
      have hci : l[i]? = some c := by simpa using hc
      rcases List.mem_or_eq_of_mem_set hx with hx | rfl
      · exact h.1 x hx
      · exact h1 a (h.1 c (List.mem_of_getElem? hci))
theorem Inv.set {l : List CH} {i : Nat} {c d : CH} (h : Inv l) (hc : l[i]? = some c) (hl : d.loc = c.loc) (hr : d.rem = c.rem) (hd : d.ok) : Inv (l.set i d) := by
  have hcm := List.mem_of_getElem? hc
  refine ⟨by simpa using h.len, fun x hx => ?_, pairwise_set hc (fun x hx => by rw [hl]; exact hx) (fun x hx => by rw [hl]; exact hx) h.up, pairwise_set hc (fun x hx => by rw [hr]; exact hx) (fun x hx => by rw [hr]; exact hx) h.rem, fun x hx => ?_⟩
  · rcases List.mem_or_eq_of_mem_set hx with hx | rfl
    · exact h.loc x hx
    · rw [hl]; exact h.loc c hcm
  · rcases List.mem_or_eq_of_mem_set hx with hx | rfl
    · exact h.ok x hx
    · exact hd
theorem at_split {c : CH} {l : List CH} (hne : ∀ d ∈ l, d.loc ≠ c.loc) (hu : l.Pairwise fun a b => a.loc < b.loc) : (∀ d ∈ l.take (atN c l), d.loc < c.loc) ∧ ∀ d ∈ l.drop (atN c l), c.loc < d.loc := by
  unfold atN
  split
  · rename_i h
    rw [List.take_length, List.drop_length]
    refine ⟨fun d hd => ?_, fun d hd => by cases hd⟩
    have : ¬ (geP c.loc d = true) := fun hg => by
      have := (ixI_any (p := geP c.loc) (l := l)).2 (List.any_eq_true.2 ⟨d, hd, hg⟩)
      omega
    simpa [geP] using this
  · rename_i h
    obtain ⟨x, h1, h2, h3⟩ := ixI_get (p := geP c.loc) (l := l) (by omega)
    generalize (ixI (geP c.loc) l).toNat = i at *
    have hi := (List.getElem?_eq_some_iff.1 h1).1
    have hxc : c.loc < x.loc := by
      have h4 : x.loc ≥ c.loc := by simpa [geP] using h2
      have := hne x (List.mem_of_getElem? h1)
      omega
    refine ⟨fun d hd => ?_, fun d hd => ?_⟩
    · obtain ⟨j, hj⟩ := List.mem_iff_getElem?.1 hd
      rw [List.getElem?_take] at hj
      split at hj
      · rename_i hji
        have := h3 j d hji hj
        simpa [geP] using this
      · cases hj
    · have hs : l.drop i = x :: l.drop (i + 1) := by
        rw [List.drop_eq_getElem_cons hi]
        congr 1
        rw [List.getElem?_eq_getElem hi] at h1
        exact Option.some.inj h1
      rw [hs] at hd
      rcases List.mem_cons.1 hd with rfl | hd
      · exact hxc
      · have hp : (l.drop i).Pairwise fun a b => a.loc < b.loc := hu.drop
        rw [hs, List.pairwise_cons] at hp
        have := hp.1 d hd
        omega
theorem pairwise_ins {R : CH → CH → Prop} {l : List CH} {i : Nat} {c : CH} (h : l.Pairwise R) (h1 : ∀ d ∈ l.take i, R d c) (h2 : ∀ d ∈ l.drop i, R c d) : (insL i c l).Pairwise R := by
  have hs : l = l.take i ++ l.drop i := (List.take_append_drop i l).symm
  rw [hs, List.pairwise_append] at h
  unfold insL
  refine List.pairwise_append.2 ⟨h.1, List.pairwise_cons.2 ⟨h2, h.2.1⟩, fun a ha b hb => ?_⟩
  rcases List.mem_cons.1 hb with rfl | hb
  · exact h1 a ha
  · exact h.2.2 a ha b hb
theorem Inv.ins {l : List CH} {c : CH} (h : Inv l) (h8 : ¬ 8 ≤ l.length) (hl : ∀ d ∈ l, d.loc ≠ c.loc) (hc8 : c.loc < 8) (hr : ∀ d ∈ l, d.rem ≠ c.rem) (hc : c.ok) : Inv (insL (atN c l) c l) := by
  obtain ⟨s1, s2⟩ := at_split hl h.up
  have hm : ∀ x ∈ insL (atN c l) c l, x = c ∨ x ∈ l := fun x hx => by
    simp only [insL, List.mem_append, List.mem_cons] at hx
    rcases hx with hx | rfl | hx
    · exact .inr (List.mem_of_mem_take hx)
    · exact .inl rfl
    · exact .inr (List.mem_of_mem_drop hx)
  refine ⟨by rw [insL_len (atN_le c l)]; omega, fun x hx => ?_, pairwise_ins h.up s1 s2, pairwise_ins h.rem (fun d hd => hr d (List.mem_of_mem_take hd)) (fun d hd => (hr d (List.mem_of_mem_drop hd)).symm), fun x hx => ?_⟩
  · rcases hm x hx with rfl | hx
    · exact hc8
    · exact h.loc x hx
  · rcases hm x hx with rfl | hx
    · exact hc
    · exact h.ok x hx
theorem takeR_inv {l : List CH} {lim : Int} {dead : Bool} {m : MD} {w : World} (h : Inv l) (hlim : U32 lim) (hm : MIn w m) : Inv (takeR l lim dead m).l := by
  have hok := takeR_ok (dead := dead) h.ok hlim hm
  have hcm : ∀ k, Inv (comesR l m k).l := fun k => by
    unfold comesR wrongR
    split
    · exact h
    · rename_i d hd
      split
      · exact h
      · split
        · exact h
        · exact h.set hd (recvC_loc _ _ _ _ _).1 (recvC_loc _ _ _ _ _).2 (recvC_ok (h.ok d (List.mem_of_getElem? hd)) hm.win _ (by omega))
  have hop : Inv (openR l lim m).l := by
    unfold openR wrongR
    split
    · exact h
    · split
      · exact h
      · rename_i h8
        split
        · exact h
        · rename_i hr
          have hfl := freeN_le l
          refine h.ins h8 (fun d hd => freeN_new hd) (by unfold newC; dsimp only; omega) (fun d hd he => hr (List.any_eq_true.2 ⟨d, hd, by simpa [remP, newC] using he⟩)) ?_
          refine ⟨?_, hm.send, hm.win, hm.pack, hlim, hlim, by simp [newC]⟩
          unfold newC U32
          dsimp only
          omega
  unfold takeR
  split
  · exact h
  split
  · exact h
  split
  · exact h
  split
  · exact hop
  repeat' (split; exact hcm _)
  exact h
/-- What an answer of channels that aren't dead is like. -/
theorem takeR_cases (l : List CH) (lim : Int) (m : MD) : (∃ l' d' out ev, takeR l lim false m = ⟨l', d', out, ev, 0⟩ ∧ (m.kind = 90 → ∃ k, out = [(k, m.sender)] ∧ (k = 91 ∨ k = 92))) ∨ ∃ l' E, takeR l lim false m = ⟨l', true, [(1, 0)], [], E⟩ ∧ E ≠ 0 := by
  have hcm : ∀ k, (∃ l' d' out ev, comesR l m k = ⟨l', d', out, ev, 0⟩) ∨ ∃ l' E, comesR l m k = ⟨l', true, [(1, 0)], [], E⟩ ∧ E ≠ 0 := fun k => by
    unfold comesR wrongR
    split
    · exact .inr ⟨_, _, rfl, by decide⟩
    · split
      · exact .inr ⟨_, _, rfl, by decide⟩
      · split
        · rename_i hE; exact .inr ⟨_, _, rfl, hE⟩
        · exact .inl ⟨_, _, _, _, rfl⟩
  have hcm2 : ∀ k, m.kind ≠ 90 → (∃ l' d' out ev, comesR l m k = ⟨l', d', out, ev, 0⟩ ∧ (m.kind = 90 → ∃ k, out = [(k, m.sender)] ∧ (k = 91 ∨ k = 92))) ∨ ∃ l' E, comesR l m k = ⟨l', true, [(1, 0)], [], E⟩ ∧ E ≠ 0 := fun k hk => by
    rcases hcm k with ⟨l', d', out, ev, h⟩ | h
    · exact .inl ⟨l', d', out, ev, h, fun h => absurd h hk⟩
    · exact .inr h
  unfold takeR
  rw [if_neg (by simp)]
  split
  · rename_i h1; exact .inl ⟨_, _, _, _, rfl, fun h => by omega⟩
  split
  · rename_i h1; exact .inl ⟨_, _, _, _, rfl, fun h => by omega⟩
  split
  · unfold openR wrongR
    split
    · exact .inl ⟨_, _, _, _, rfl, fun _ => ⟨92, rfl, .inr rfl⟩⟩
    split
    · exact .inl ⟨_, _, _, _, rfl, fun _ => ⟨92, rfl, .inr rfl⟩⟩
    split
    · exact .inr ⟨_, _, rfl, by decide⟩
    · exact .inl ⟨_, _, _, _, rfl, fun _ => ⟨91, rfl, .inl rfl⟩⟩
  rename_i h90
  repeat' (split; exact hcm2 _ h90)
  exact .inr ⟨_, _, rfl, by decide⟩
end Go.Proofs.Ytbamojbkehnmkaa
