/- Layer 4: what is encoded are bytes; the fields of a kind alone; no condition. -/
import Derived.Test.YtpojfcpeibnohaaGreatDoorReqL
namespace Go.Proofs.YtpojfcpeibnohaaGreatDoor
set_option linter.all false
open Go.RowKit

theorem parts_inb {w : World} {m : RQ} (ok : m.ok w) (k : Nat) (h1 : 1 ≤ k) (h2 : k ≤ 10) : InB ((partsR m k).flatMap bytesP) := by
  have hT : ∀ s, InB (pT s).text := fun s => u8i_range _
  have hN : InB ([] : List Int) := fun x hx => by simp at hx
  have hp : ∀ p ∈ partsR m k, InB p.text := by
    rcases k10 h1 h2 with rfl | rfl | rfl | rfl | rfl | rfl | rfl | rfl | rfl | rfl <;> intro p hp <;> simp only [partsR, List.mem_cons, List.not_mem_nil, or_false] at hp
    · rcases hp with rfl | rfl | rfl | rfl | rfl | rfl
      · exact hT _
      · exact hN
      · exact hN
      · exact hN
      · exact hN
      · exact ok.bytes
    · rcases hp with rfl | rfl
      · exact hT _
      · exact hT _
    · subst hp; exact hT _
    · subst hp; exact hT _
    · rcases hp with rfl | rfl | rfl | rfl <;> exact hN
    · subst hp; exact hN
    · subst hp; exact hT _
    · subst hp; exact hN
    · rcases hp with rfl | rfl | rfl | rfl
      · exact hT _
      · exact hN
      · exact hT _
      · exact hT _
  intro x hx
  obtain ⟨p, hpm, hxp⟩ := List.mem_flatMap.1 hx
  exact bytesP_range (hp p hpm) x hxp
theorem ownK_ok {w : World} {m : RQ} (ok : m.ok w) (k : Nat) : (ownK m k).ok w := by
  have z := firstR_ok w k
  have u : U32 0 := ⟨by decide, by decide⟩
  obtain ⟨n1, n2, n3, n4, n5⟩ := ok.nums
  unfold ownK
  split
  · exact { firstR_ok w 1 with text := ok.text, modes := ok.modes, mle := ok.mle, mmax := ok.mmax, bytes := ok.bytes, nums := ⟨n1, n2, n3, n4, u⟩ }
  · exact { firstR_ok w 2 with text := ok.text, value := ok.value }
  · exact { firstR_ok w 4 with text := ok.text }
  · exact { firstR_ok w 5 with text := ok.text }
  · exact { firstR_ok w 6 with nums := ⟨n1, n2, n3, n4, u⟩ }
  · exact { firstR_ok w 7 with }
  · exact { firstR_ok w 8 with text := ok.text }
  · exact { firstR_ok w 9 with nums := ⟨u, u, u, u, n5⟩ }
  · exact { firstR_ok w 10 with text := ok.text, value := ok.value, lang := ok.lang }
  · exact firstR_ok w _
/-- What is read is written as it came, whatever its length. -/
theorem again_parts (ks l : List Int) (hl : InB l) (h : (readP ks l).1 = 0) :
    (readP ks l).2.map (·.kind) = ks ∧ rowOk ks = true ∧ (∀ p ∈ (readP ks l).2, faultP p = 0 ∧ 0 ≤ p.n ∧ p.n ≤ 4294967295) ∧ Parts (readP ks l).2 l := by
  unfold readP at h ⊢
  by_cases hr : rowOk ks = true
  · rw [if_pos hr] at h ⊢
    rcases readFrom_again ks l [] (rowOk_range hr) hl with h' | ⟨h0, ps, h1, h2, h3, h4⟩
    · exact absurd h h'.1
    · rw [List.nil_append] at h1
      rw [h1]
      exact ⟨h2, hr, h3, h4⟩
  · rw [if_neg hr] at h
    exact absurd h (by decide)
theorem firstE_0 {a : Int} {l : List Int} (h : firstE (a :: l) = 0) : a = 0 ∧ firstE l = 0 := by
  unfold firstE at h
  split at h
  · rename_i h1; exact absurd h h1
  · rename_i h1; exact ⟨by simpa using h1, h⟩
theorem word_le {s : ByteArray} {n : Nat} (h : wordE s n = 0) : s.size ≤ 64 := by
  unfold wordE at h
  split at h
  · rename_i h1
    unfold wordOk at h1
    simp only [Bool.and_eq_true, decide_eq_true_eq] at h1
    exact h1.1.2
  · cases h
theorem long_le {n : Nat} (h : longE n = 0) : n ≤ 1024 := by
  unfold longE at h
  split at h
  · cases h
  · omega
theorem len_pT (s : ByteArray) : (bytesP (pT s)).length = 4 + s.size := by
  show (four (sOf s).length ++ sOf s).length = _
  rw [List.length_append, four_length, sOf_len]
theorem len_pN (n : Int) : (bytesP (pN n)).length = 4 := rfl
theorem len_pB (b : Bool) : (bytesP (pB b)).length = 1 := rfl
/-- What is asked bounds what is written. -/
theorem parts_small (m : RQ) (k : Nat) (h1 : 1 ≤ k) (h2 : k ≤ 10) (h : askR m k = 0) : ((partsR m k).flatMap bytesP).length ≤ 33792 := by
  rcases k10 h1 h2 with rfl | rfl | rfl | rfl | rfl | rfl | rfl | rfl | rfl | rfl
  · obtain ⟨a1, a2⟩ := firstE_0 h
    have a3 := (firstE_0 a2).1
    have := word_le a1
    have := long_le a3
    show ([pT m.text, pN m.cols, pN m.rows, pN m.width, pN m.height, ⟨4, 0, m.modes, []⟩].flatMap bytesP).length ≤ _
    simp only [List.flatMap_cons, List.flatMap_nil, List.length_append, len_pT, len_pN, List.length_nil]
    rw [show (bytesP ⟨4, 0, m.modes, []⟩).length = 4 + m.modes.length by show (four m.modes.length ++ m.modes).length = _; rw [List.length_append, four_length]]
    omega
  · by_cases hq : hasEq m.text = true
    · rw [show askR m 2 = 4 from if_pos hq] at h; cases h
    · rw [show askR m 2 = firstE [wordE m.text 1, longE m.value.size] from if_neg hq] at h
      obtain ⟨a1, a2⟩ := firstE_0 h
      have a3 := (firstE_0 a2).1
      have := word_le a1
      have := long_le a3
      show ([pT m.text, pT m.value].flatMap bytesP).length ≤ _
      simp only [List.flatMap_cons, List.flatMap_nil, List.length_append, len_pT, List.length_nil]
      omega
  · exact Nat.zero_le _
  · have := long_le (n := m.text.size) h
    show ([pT m.text].flatMap bytesP).length ≤ _
    simp only [List.flatMap_cons, List.flatMap_nil, List.length_append, len_pT, List.length_nil]
    omega
  · have := word_le (s := m.text) (n := 1) h
    show ([pT m.text].flatMap bytesP).length ≤ _
    simp only [List.flatMap_cons, List.flatMap_nil, List.length_append, len_pT, List.length_nil]
    omega
  · show ([pN m.cols, pN m.rows, pN m.width, pN m.height].flatMap bytesP).length ≤ _
    simp only [List.flatMap_cons, List.flatMap_nil, List.length_append, len_pN, List.length_nil]
    omega
  · show ([pB m.on].flatMap bytesP).length ≤ _
    simp only [List.flatMap_cons, List.flatMap_nil, List.length_append, len_pB, List.length_nil]
    omega
  · have := word_le (s := m.text) (n := 1) h
    show ([pT m.text].flatMap bytesP).length ≤ _
    simp only [List.flatMap_cons, List.flatMap_nil, List.length_append, len_pT, List.length_nil]
    omega
  · show ([pN m.code].flatMap bytesP).length ≤ _
    simp only [List.flatMap_cons, List.flatMap_nil, List.length_append, len_pN, List.length_nil]
    omega
  · obtain ⟨a1, a2⟩ := firstE_0 h
    obtain ⟨a3, a4⟩ := firstE_0 a2
    have a5 := (firstE_0 a4).1
    have := word_le a1
    have := word_le a3
    have := long_le a5
    show ([pT m.text, pB m.on, pT m.value, pT m.lang].flatMap bytesP).length ≤ _
    simp only [List.flatMap_cons, List.flatMap_nil, List.length_append, len_pT, len_pB, List.length_nil]
    omega
/-- What is decoded is no longer than what may be. -/
theorem ragain_law2 {s : ByteArray} {l : List Int} {m : RQ} (hl : InB l) (h : DecR s l m 0) :
    (encR m).1 = 0 ∧ (encR m).2.length = l.length ∧ encName m = s ∧ SameR m (ownK m m.kind.toNat) := by
  refine ragain_law hl ?_ h
  unfold DecR at h
  split at h
  · exact absurd h.1 (by decide)
  rename_i k hr
  obtain ⟨h1, h2, hs⟩ := kindL_range hr
  unfold DecK at h
  split at h
  · rename_i h0
    exact absurd h.1.symm h0
  rename_i h0
  obtain ⟨fs, e1, h⟩ := h
  split at h
  case isFalse => rename_i hq; exact absurd h.1.symm hq
  rename_i hf
  have h00 : (readP (rkinds k) l).1 = 0 := by simpa using h0
  have hq := (readP_good (rkinds k) l hl h00).2
  have hown := readP_own (rkinds k) l
  obtain ⟨g1, _, g3, g4⟩ := again_parts (rkinds k) l hl h00
  rw [← e1] at g1 g3 g4 hq hown
  have gf : ∀ g ∈ fs, GoodF g := fun g hg => by
    have hy : g.pf ∈ List.map FD.pf fs := List.mem_map_of_mem hg
    exact ⟨hown _ hy, (g3 _ hy).1, (g3 _ hy).2.1, (hq _ hy).2⟩
  have hparts := parts_put fs k h1 h2 (by rw [List.map_map] at g1; exact g1) gf
  have := parts_small _ k h1 h2 hf
  rw [← hparts, g4.len] at this
  exact this
/-- A request that is its kind's alone is small. -/
theorem own_small {m : RQ} {k : Nat} (h1 : 1 ≤ k) (h2 : k ≤ 10) (hok : OkP (partsR m k)) (h : SameR m (ownK m k)) : m.text.size ≤ 33792 ∧ m.value.size ≤ 33792 ∧ m.lang.size ≤ 33792 := by
  have key : ∀ p ∈ partsR m k, (bytesP p).length ≤ 33792 := fun p hp => by
    have h1 := hok.2.2
    obtain ⟨a, b, e⟩ := List.append_of_mem hp
    rw [e, List.flatMap_append, List.flatMap_cons, List.length_append, List.length_append] at h1
    omega
  have kT : ∀ s, pT s ∈ partsR m k → s.size ≤ 33792 := fun s hs => by
    have := key _ hs
    rw [len_pT] at this
    omega
  have z : ∀ s : ByteArray, (⟨#[]⟩ : ByteArray) = s → s.size ≤ 33792 := fun s hs => by rw [← hs]; exact Nat.zero_le _
  obtain ⟨_, t, v, l, _⟩ := h
  rcases k10 h1 h2 with rfl | rfl | rfl | rfl | rfl | rfl | rfl | rfl | rfl | rfl
  · exact ⟨kT _ (by simp [partsR]), z _ v, z _ l⟩
  · exact ⟨kT _ (by simp [partsR]), kT _ (by simp [partsR]), z _ l⟩
  · exact ⟨z _ t, z _ v, z _ l⟩
  · exact ⟨kT _ (by simp [partsR]), z _ v, z _ l⟩
  · exact ⟨kT _ (by simp [partsR]), z _ v, z _ l⟩
  · exact ⟨z _ t, z _ v, z _ l⟩
  · exact ⟨z _ t, z _ v, z _ l⟩
  · exact ⟨kT _ (by simp [partsR]), z _ v, z _ l⟩
  · exact ⟨z _ t, z _ v, z _ l⟩
  · exact ⟨kT _ (by simp [partsR]), kT _ (by simp [partsR]), kT _ (by simp [partsR])⟩
end Go.Proofs.YtpojfcpeibnohaaGreatDoor
