/- Layer 1: what is read, as its kinds say; numbers and texts in range; no condition. -/
import Derived.Test.YtkgikodiecmakaaGreatDoorOctV
import Derived.Test.YtkgikodiecmakaaGreatDoorU
namespace Go.Proofs.YtkgikodiecmakaaGreatDoor
set_option linter.all false
open Go.RowKit


def sOf (s : ByteArray) : List Int := u8i s.data.toList
theorem sOf_len (s : ByteArray) : (sOf s).length = s.size := by unfold sOf u8i; simp
theorem rText_inb {l : List Int} (hl : InB l) : InB (rText l).text := by
  unfold rText rTextN rShort
  split
  · exact fun x hx => by simp at hx
  · split
    · exact fun x hx => by simp at hx
    · split
      · exact fun x hx => by simp at hx
      · exact (hl.drop 4).take _
theorem kind_inb (k : Nat) (h6 : k ≤ 6) (l : List Int) (hl : InB l) : InB (rKind k l).text := by
  have z : InB [] := fun x hx => by simp at hx
  have ho : (rOctet l).text = [] := by unfold rOctet rShort; split <;> rfl
  have hk : k = 0 ∨ k = 1 ∨ k = 2 ∨ k = 3 ∨ k = 4 ∨ k = 5 ∨ k = 6 := by omega
  rcases hk with rfl | rfl | rfl | rfl | rfl | rfl | rfl
  · exact hl
  · rw [rKind_1, ho]; exact z
  · rw [rKind_2, show (rFlag l).text = (rOctet l).text from rfl, ho]; exact z
  · rw [rKind_3]; unfold rNumber rShort; split <;> exact z
  · rw [rKind_4]; exact rText_inb hl
  · rw [rKind_5]; unfold rNames rNamesT; split; exact z; split <;> exact z
  · rw [rKind_6]; exact hl
theorem readFrom_inb : ∀ (ks l : List Int) (acc : List PF), (∀ k ∈ ks, 1 ≤ k ∧ k ≤ 6) → InB l → (∀ p ∈ acc, InB p.text) → ∀ p ∈ (readFrom ks l acc).2, InB p.text
  | [], l, acc, _, _, ha => by
    unfold readFrom
    split
    · exact fun p hp => by simp at hp
    · exact ha
  | k :: ks, l, acc, hk, hl, ha => by
    have h16 := hk k (by simp)
    unfold readFrom
    split
    · exact fun p hp => by simp at hp
    · obtain ⟨n, hn⟩ := rKind_rest k.toNat l
      refine readFrom_inb ks _ _ (fun k hk2 => hk k (by simp [hk2])) (by rw [hn]; exact hl.drop n) (fun p hp => ?_)
      rcases List.mem_append.1 hp with hp | hp
      · exact ha p hp
      · simp at hp
        subst hp
        exact kind_inb _ (by omega) l hl
theorem readP_good (ks l : List Int) (hl : InB l) (h : (readP ks l).1 = 0) : (readP ks l).2.map (·.kind) = ks ∧ ∀ p ∈ (readP ks l).2, U32 p.n ∧ InB p.text := by
  unfold readP at h ⊢
  split at h
  · rename_i hr
    rw [if_pos hr]
    have h2 := readFrom_inb ks l [] (rowOk_range hr) hl (fun p hp => by simp at hp)
    rcases readFrom_again ks l [] (rowOk_range hr) hl with e | ⟨_, ps, e1, e2, e3, _⟩
    · exact absurd h e.1
    · rw [e1] at h2 ⊢
      refine ⟨by simpa using e2, fun p hp => ⟨(e3 p (by simpa using hp)).2, h2 p hp⟩⟩
  · cases h
theorem str_size (l : List Int) : (strOfNums l).size = l.length := by
  show (strOfNums l).data.size = _
  rw [← Array.length_toList, strOfNums_data, List.length_map]
theorem str_sOf (s : ByteArray) : strOfNums (sOf s) = s := bytes_ext (str_u8i _)
theorem rKind_own (k : Nat) (h1 : 1 ≤ k) (h6 : k ≤ 6) (l : List Int) : ownP ⟨k, (rKind k l).n, (rKind k l).text, (rKind k l).list⟩ = ⟨k, (rKind k l).n, (rKind k l).text, (rKind k l).list⟩ := by
  have ho : (rOctet l).text = [] ∧ (rOctet l).list = [] := by unfold rOctet rShort; split <;> exact ⟨rfl, rfl⟩
  have hN : (rNumber l).text = [] ∧ (rNumber l).list = [] := by unfold rNumber rShort; split <;> exact ⟨rfl, rfl⟩
  have hT := rText_text l
  have hL : (rNames l).text = [] ∧ (rNames l).n = 0 := by unfold rNames rNamesT; split; exact ⟨rfl, rfl⟩; split <;> exact ⟨rfl, rfl⟩
  have hk : k = 1 ∨ k = 2 ∨ k = 3 ∨ k = 4 ∨ k = 5 ∨ k = 6 := by omega
  rcases hk with rfl | rfl | rfl | rfl | rfl | rfl
  · rw [rKind_1, ho.1, ho.2]; rfl
  · rw [rKind_2, show (rFlag l).text = (rOctet l).text from rfl, show (rFlag l).list = (rOctet l).list from rfl, ho.1, ho.2]; rfl
  · rw [rKind_3, hN.1, hN.2]; rfl
  · rw [rKind_4, hT.2.1, hT.2.2]; rfl
  · rw [rKind_5, hL.1, hL.2]; rfl
  · rw [rKind_6]; rfl
theorem readFrom_own : ∀ (ks l : List Int) (acc : List PF), (∀ k ∈ ks, 1 ≤ k ∧ k ≤ 6) → (∀ p ∈ acc, ownP p = p) → ∀ p ∈ (readFrom ks l acc).2, ownP p = p
  | [], l, acc, _, ha => by
    unfold readFrom
    split
    · exact fun p hp => by simp at hp
    · exact ha
  | k :: ks, l, acc, hk, ha => by
    have h16 := hk k (by simp)
    obtain ⟨j, rfl⟩ := Int.eq_ofNat_of_zero_le (show 0 ≤ k by omega)
    unfold readFrom
    split
    · exact fun p hp => by simp at hp
    · refine readFrom_own ks _ _ (fun k hk2 => hk k (by simp [hk2])) (fun p hp => ?_)
      rcases List.mem_append.1 hp with hp | hp
      · exact ha p hp
      · simp only [List.mem_singleton] at hp
        subst hp
        rw [Int.toNat_natCast]
        exact rKind_own j (by omega) (by omega) l
theorem readP_own (ks l : List Int) : ∀ p ∈ (readP ks l).2, ownP p = p := by
  unfold readP
  split
  · rename_i hr
    exact readFrom_own ks l [] (rowOk_range hr) (fun p hp => by simp at hp)
  · exact fun p hp => by simp at hp
end Go.Proofs.YtkgikodiecmakaaGreatDoor
