/- Layer 1: what is read is written as it came; what is written is read as it was: the laws, no program in sight. -/
import Derived.Test.YtdmjabfjkkjhbaaDoorOctT
import Derived.Test.YtdmjabfjkkjhbaaDoorOctU
namespace Go.Proofs.YtdmjabfjkkjhbaaDoor
set_option linter.all false
open Go.RowKit

def InB (l : List Int) : Prop := ∀ x ∈ l, 0 ≤ x ∧ x < 256
theorem InB.left {a b : List Int} (h : InB (a ++ b)) : InB a := fun x hx => h x (by simp [hx])
theorem InB.right {a b : List Int} (h : InB (a ++ b)) : InB b := fun x hx => h x (by simp [hx])
theorem InB.drop {a : List Int} (h : InB a) (n : Nat) : InB (a.drop n) := fun x hx => h x (List.mem_of_mem_drop hx)
theorem InB.take {a : List Int} (h : InB a) (n : Nat) : InB (a.take n) := fun x hx => h x (List.mem_of_mem_take hx)

/-- A field's bytes, as it was read of them. -/
def Match (p : PF) (pre : List Int) : Prop := if p.kind = 2 then ∃ b, pre = [b] ∧ bytesP p = [if b = 0 then 0 else 1] else bytesP p = pre
theorem Match.len {p : PF} {pre : List Int} (h : Match p pre) : (bytesP p).length = pre.length := by
  unfold Match at h
  split at h
  · obtain ⟨b, rfl, e⟩ := h
    rw [e]; rfl
  · rw [h]

theorem rText_ok {l : List Int} (hl : InB l) (h : (rText l).e = 0) : 4 ≤ l.length ∧ be4 l ≤ 32768 ∧ 0 ≤ be4 l ∧ 4 + (be4 l).toNat ≤ l.length ∧ (rText l).text = (l.drop 4).take (be4 l).toNat ∧ (rText l).rest = l.drop (4 + (be4 l).toNat) := by
  have hb := be4_ok l hl
  unfold rText rShort at h ⊢
  split at h
  · cases h
  · rename_i h4
    rw [if_neg h4]
    unfold rTextN at h ⊢
    split at h
    · cases h
    · rename_i h5
      split at h
      · cases h
      · rename_i h6
        rw [if_neg h5, if_neg h6]
        rw [List.length_drop] at h6
        exact ⟨by omega, by omega, hb.1, by omega, rfl, by rw [List.drop_drop]⟩
theorem take_text {l : List Int} (hl : InB l) (h4 : 4 ≤ l.length) (h5 : 4 + (be4 l).toNat ≤ l.length) (h0 : 0 ≤ be4 l) :
    four ((l.drop 4).take (be4 l).toNat).length ++ (l.drop 4).take (be4 l).toNat = l.take (4 + (be4 l).toNat) := by
  have e : ((((l.drop 4).take (be4 l).toNat).length : Nat) : Int) = be4 l := by
    rw [List.length_take, List.length_drop]
    omega
  rw [e, four_be4 l h4 hl, List.take_add]

theorem kind_again (k : Nat) (h1 : 1 ≤ k) (h6 : k ≤ 6) (l : List Int) (hl : InB l) (h : (rKind k l).e = 0) :
    faultP ⟨k, (rKind k l).n, (rKind k l).text, (rKind k l).list⟩ = 0 ∧ (0 ≤ (rKind k l).n ∧ (rKind k l).n ≤ 4294967295) ∧
    ∃ pre, l = pre ++ (rKind k l).rest ∧ Match ⟨k, (rKind k l).n, (rKind k l).text, (rKind k l).list⟩ pre := by
  have hk : k = 1 ∨ k = 2 ∨ k = 3 ∨ k = 4 ∨ k = 5 ∨ k = 6 := by omega
  rcases hk with rfl | rfl | rfl | rfl | rfl | rfl
  · have e : rKind 1 l = rOctet l := rfl
    rw [e] at h ⊢
    cases l with
    | nil => cases h
    | cons a t =>
      have ha := hl a (by simp)
      have e2 : rOctet (a :: t) = ⟨0, a, [], [], t⟩ := by unfold rOctet; simp
      rw [e2]
      refine ⟨by unfold faultP over; simp; omega, ⟨ha.1, by dsimp; omega⟩, [a], rfl, ?_⟩
      unfold Match bytesP
      simp
      omega
  · have e : rKind 2 l = rFlag l := rfl
    rw [e] at h ⊢
    cases l with
    | nil => cases h
    | cons a t =>
      have ha := hl a (by simp)
      have e2 : rFlag (a :: t) = ⟨0, min a 1, [], [], t⟩ := by unfold rFlag rOctet; simp
      rw [e2]
      refine ⟨by unfold faultP over; simp; omega, ⟨by dsimp; omega, by dsimp; omega⟩, [a], rfl, ?_⟩
      unfold Match bytesP
      simp
      split <;> omega
  · have e : rKind 3 l = rNumber l := rfl
    rw [e] at h ⊢
    by_cases h4 : l.length < 4
    · unfold rNumber rShort at h
      rw [if_pos h4] at h
      cases h
    · have e2 : rNumber l = ⟨0, be4 l, [], [], l.drop 4⟩ := by unfold rNumber; rw [if_neg h4]
      rw [e2]
      have hb := be4_ok l hl
      refine ⟨rfl, ⟨hb.1, by dsimp; omega⟩, l.take 4, (List.take_append_drop _ _).symm, ?_⟩
      exact four_be4 l (by omega) hl
  · have e : rKind 4 l = rText l := rfl
    rw [e] at h ⊢
    obtain ⟨a1, a2, a3, a4, a5, a6⟩ := rText_ok hl h
    obtain ⟨b1, b2, b3⟩ := rText_text l
    rw [b3, a5, a6]
    refine ⟨?_, ⟨Int.le_refl 0, show (0 : Int) ≤ 4294967295 by decide⟩, l.take (4 + (be4 l).toNat), (List.take_append_drop _ _).symm, ?_⟩
    · rw [a5] at b1
      show over _ 32768 6 = 0
      exact over_neg (by dsimp only; omega)
    · exact take_text hl a1 a4 a3
  · have e : rKind 5 l = rNames l := rfl
    rw [e] at h ⊢
    unfold rNames rNamesT at h ⊢
    split at h
    · rename_i h7
      exact absurd h h7
    · rename_i h7
      have h7 : (rText l).e = 0 := by simpa using h7
      obtain ⟨a1, a2, a3, a4, a5, a6⟩ := rText_ok hl h7
      rw [if_neg (by simp [h7])]
      split at h
      · rename_i h8
        rw [if_pos h8]
        refine ⟨rfl, ⟨Int.le_refl 0, show (0 : Int) ≤ 4294967295 by decide⟩, l.take (4 + (be4 l).toNat), ?_, ?_⟩
        · dsimp only
          rw [a6]
          exact (List.take_append_drop _ _).symm
        · have := take_text hl a1 a4 a3
          rw [← a5, h8] at this
          exact this
      · rename_i h8
        rw [if_neg h8]
        have hp := pieces_join (strOfNums (rText l).text)
        have hr : InB (rText l).text := by rw [a5]; exact (hl.drop 4).take _
        have hu := u8i_str hr
        refine ⟨h, ⟨Int.le_refl 0, show (0 : Int) ≤ 4294967295 by decide⟩, l.take (4 + (be4 l).toNat), ?_, ?_⟩
        · dsimp only
          rw [a6]
          exact (List.take_append_drop _ _).symm
        · show four (joinU (pieces (strOfNums (rText l).text))).length ++ u8i (joinU (pieces (strOfNums (rText l).text))) = _
          rw [hp, hu]
          have e3 : (strOfNums (rText l).text).data.toList.length = (rText l).text.length := by rw [strOfNums_data, List.length_map]
          rw [e3, a5]
          exact take_text hl a1 a4 a3
  · have e : rKind 6 l = rRest l := rfl
    rw [e] at h ⊢
    unfold rRest at h ⊢
    exact ⟨h, ⟨Int.le_refl 0, show (0 : Int) ≤ 4294967295 by decide⟩, l, by simp, rfl⟩

/-- Fields, as they were read of these bytes. -/
def Parts : List PF → List Int → Prop
  | [], l => l = []
  | p :: ps, l => ∃ pre rest, l = pre ++ rest ∧ Match p pre ∧ Parts ps rest
theorem readFrom_again : ∀ (ks l : List Int) (acc : List PF), (∀ k ∈ ks, 1 ≤ k ∧ k ≤ 6) → InB l →
    ((readFrom ks l acc).1 ≠ 0 ∧ (readFrom ks l acc).2 = []) ∨
    ((readFrom ks l acc).1 = 0 ∧ ∃ ps, (readFrom ks l acc).2 = acc ++ ps ∧ ps.map (·.kind) = ks ∧ (∀ p ∈ ps, faultP p = 0 ∧ 0 ≤ p.n ∧ p.n ≤ 4294967295) ∧ Parts ps l)
  | [], l, acc, _, _ => by
    unfold readFrom
    split
    · exact .inl ⟨by decide, rfl⟩
    · rename_i h
      refine .inr ⟨rfl, [], by simp, rfl, fun p hp => by simp at hp, ?_⟩
      exact List.eq_nil_of_length_eq_zero (by omega)
  | k :: ks, l, acc, hk, hl => by
    have h16 := hk k (by simp)
    obtain ⟨j, rfl⟩ := Int.eq_ofNat_of_zero_le (show 0 ≤ k by omega)
    unfold readFrom
    rw [Int.toNat_natCast]
    by_cases he : (rKind j l).e = 0
    · rw [if_neg (by simp [he])]
      obtain ⟨g1, g2, pre, g3, g4⟩ := kind_again j (by omega) (by omega) l hl he
      have hr : InB (rKind j l).rest := by
        rw [g3] at hl
        exact hl.right
      rcases readFrom_again ks (rKind j l).rest (acc ++ [⟨j, (rKind j l).n, (rKind j l).text, (rKind j l).list⟩]) (fun k hk2 => hk k (by simp [hk2])) hr with h | ⟨h0, ps, h1, h2, h3, h4⟩
      · exact .inl h
      · refine .inr ⟨h0, ⟨j, (rKind j l).n, (rKind j l).text, (rKind j l).list⟩ :: ps, by rw [h1]; simp, by rw [List.map_cons, h2], fun p hp => ?_, pre, _, g3, g4, h4⟩
        rcases List.mem_cons.1 hp with rfl | hp
        · exact ⟨g1, g2⟩
        · exact h3 p hp
    · rw [if_pos he]
      exact .inl ⟨he, rfl⟩
theorem Parts.len : ∀ {ps : List PF} {l : List Int}, Parts ps l → (ps.flatMap bytesP).length = l.length
  | [], l, h => by rw [h]; rfl
  | p :: ps, l, ⟨pre, rest, e, m, h⟩ => by
    rw [e, List.flatMap_cons, List.length_append, List.length_append, m.len, Parts.len h]
theorem Parts.at_ : ∀ {ps : List PF} {l : List Int}, Parts ps l → ∀ (i : Nat) (p : PF), ps[i]? = some p →
    Match p ((l.drop ((ps.take i).flatMap bytesP).length).take (bytesP p).length) ∧ ((ps.flatMap bytesP).drop ((ps.take i).flatMap bytesP).length).take (bytesP p).length = bytesP p ∧
    ((ps.take i).flatMap bytesP).length + (bytesP p).length ≤ l.length
  | [], l, h, i, p, hp => by simp at hp
  | q :: ps, l, ⟨pre, rest, e, m, h⟩, 0, p, hp => by
    simp at hp
    subst hp
    rw [e]
    simp [List.flatMap_cons, m.len]
    exact m
  | q :: ps, l, ⟨pre, rest, e, m, h⟩, i + 1, p, hp => by
    simp at hp
    obtain ⟨h1, h2, h3⟩ := Parts.at_ h i p hp
    rw [e, List.take_succ_cons, List.flatMap_cons, List.length_append, m.len, List.flatMap_cons, List.length_append]
    rw [← List.drop_drop, List.drop_left]
    have e2 : (bytesP q ++ ps.flatMap bytesP).drop (pre.length + ((ps.take i).flatMap bytesP).length) = (ps.flatMap bytesP).drop ((ps.take i).flatMap bytesP).length := by
      rw [← List.drop_drop, ← m.len, List.drop_left]
    rw [e2]
    exact ⟨h1, h2, by omega⟩
theorem rowOk_range {ks : List Int} (h : rowOk ks = true) : ∀ k ∈ ks, 1 ≤ k ∧ k ≤ 6 := fun k hk => by
  obtain ⟨i, hi⟩ := List.getElem?_of_mem hk
  exact rowOk_at h hi
/-- What is read is written as it came. -/
theorem again_law (ks l : List Int) (hl : InB l) (hm : l.length ≤ 33792) :
    ((readP ks l).1 ≠ 0 ∧ (readP ks l).2 = []) ∨
    ((readP ks l).1 = 0 ∧ (readP ks l).2.map (·.kind) = ks ∧ OkP (readP ks l).2 ∧ (∀ p ∈ (readP ks l).2, 1 ≤ p.kind ∧ p.kind ≤ 6 ∧ faultP p = 0 ∧ 0 ≤ p.n ∧ p.n ≤ 4294967295) ∧ Parts (readP ks l).2 l) := by
  unfold readP
  by_cases hr : rowOk ks = true
  · rw [if_pos hr]
    rcases readFrom_again ks l [] (rowOk_range hr) hl with h | ⟨h0, ps, h1, h2, h3, h4⟩
    · exact .inl h
    · rw [List.nil_append] at h1
      rw [h1]
      refine .inr ⟨h0, h2, ⟨by rw [h2]; exact hr, fun p hp => (h3 p hp).1, by rw [h4.len]; exact hm⟩, fun p hp => ?_, h4⟩
      have hk := rowOk_range hr p.kind (by rw [← h2]; exact List.mem_map_of_mem hp)
      exact ⟨hk.1, hk.2, h3 p hp⟩
  · rw [if_neg hr]
    exact .inl ⟨by decide, rfl⟩

/-- A field with what its kind names alone. -/
def ownP (p : PF) : PF := ⟨p.kind, if p.kind = 4 ∨ p.kind = 5 ∨ p.kind = 6 then 0 else p.n, if p.kind = 4 ∨ p.kind = 6 then p.text else [], if p.kind = 5 then p.list else []⟩
theorem rText_back (t tl : List Int) (h : t.length ≤ 32768) : rText (four t.length ++ t ++ tl) = ⟨0, 0, t, [], tl⟩ := by
  have hb : be4 (four t.length ++ t ++ tl) = (t.length : Int) := by
    rw [List.append_assoc]
    exact be4_four _ _ (by omega) (by omega)
  have hd : (four t.length ++ t ++ tl).drop 4 = t ++ tl := by
    rw [List.append_assoc]
    exact List.drop_left' rfl
  unfold rText
  rw [if_neg (by simp [four_length]), hb, hd, Int.toNat_natCast]
  unfold rTextN
  rw [if_neg (by omega), if_neg (by simp)]
  simp
section
variable (n : Int) (t : List Int) (ls : List ByteArray) (l : List Int)
theorem rKind_1 : rKind 1 l = rOctet l := rfl
theorem rKind_2 : rKind 2 l = rFlag l := rfl
theorem rKind_3 : rKind 3 l = rNumber l := rfl
theorem rKind_4 : rKind 4 l = rText l := rfl
theorem rKind_5 : rKind 5 l = rNames l := rfl
theorem rKind_6 : rKind 6 l = rRest l := rfl
theorem bytesP_1 : bytesP ⟨1, n, t, ls⟩ = [n % 256] := rfl
theorem bytesP_2 : bytesP ⟨2, n, t, ls⟩ = [n % 256] := rfl
theorem bytesP_3 : bytesP ⟨3, n, t, ls⟩ = four n := rfl
theorem bytesP_4 : bytesP ⟨4, n, t, ls⟩ = four t.length ++ t := rfl
theorem bytesP_5 : bytesP ⟨5, n, t, ls⟩ = four (joinU ls).length ++ u8i (joinU ls) := rfl
theorem bytesP_6 : bytesP ⟨6, n, t, ls⟩ = t := rfl
theorem faultP_1 : faultP ⟨1, n, t, ls⟩ = over n 255 5 := rfl
theorem faultP_2 : faultP ⟨2, n, t, ls⟩ = over n 1 5 := rfl
theorem faultP_3 : faultP ⟨3, n, t, ls⟩ = 0 := rfl
theorem faultP_4 : faultP ⟨4, n, t, ls⟩ = over t.length 32768 6 := rfl
theorem faultP_5 : faultP ⟨5, n, t, ls⟩ = namesBad ls := rfl
theorem faultP_6 : faultP ⟨6, n, t, ls⟩ = over t.length 33792 6 := rfl
end
/-- What a right field's bytes are read as. -/
def Backs (k : Nat) (p : PF) (tl : List Int) : Prop := rKind k (bytesP p ++ tl) = ⟨0, (ownP p).n, (ownP p).text, (ownP p).list, tl⟩
theorem back1 (n : Int) (t : List Int) (ls : List ByteArray) (tl : List Int) (hn : 0 ≤ n) (hf : faultP ⟨1, n, t, ls⟩ = 0) : Backs 1 ⟨1, n, t, ls⟩ tl := by
  rw [faultP_1] at hf
  have := over_ok hf (by decide)
  unfold Backs
  rw [rKind_1, bytesP_1, show ownP ⟨1, n, t, ls⟩ = ⟨1, n, [], []⟩ from rfl, show n % 256 = n by omega]
  unfold rOctet
  simp
theorem back2 (n : Int) (t : List Int) (ls : List ByteArray) (tl : List Int) (hn : 0 ≤ n) (hf : faultP ⟨2, n, t, ls⟩ = 0) : Backs 2 ⟨2, n, t, ls⟩ tl := by
  rw [faultP_2] at hf
  have := over_ok hf (by decide)
  unfold Backs
  rw [rKind_2, bytesP_2, show ownP ⟨2, n, t, ls⟩ = ⟨2, n, [], []⟩ from rfl, show n % 256 = n by omega]
  unfold rFlag rOctet
  simp
  omega
theorem back3 (n : Int) (t : List Int) (ls : List ByteArray) (tl : List Int) (hn : 0 ≤ n ∧ n ≤ 4294967295) : Backs 3 ⟨3, n, t, ls⟩ tl := by
  unfold Backs
  rw [rKind_3, bytesP_3, show ownP ⟨3, n, t, ls⟩ = ⟨3, n, [], []⟩ from rfl]
  unfold rNumber
  rw [if_neg (by simp [four_length]), be4_four n tl hn.1 hn.2]
  congr 1
theorem back4 (n : Int) (t : List Int) (ls : List ByteArray) (tl : List Int) (hf : faultP ⟨4, n, t, ls⟩ = 0) : Backs 4 ⟨4, n, t, ls⟩ tl := by
  rw [faultP_4] at hf
  have := over_ok hf (by decide)
  unfold Backs
  rw [rKind_4, bytesP_4, show ownP ⟨4, n, t, ls⟩ = ⟨4, 0, t, []⟩ from rfl]
  exact rText_back t tl (by omega)
theorem back5 (n : Int) (t : List Int) (ls : List ByteArray) (tl : List Int) (hf : faultP ⟨5, n, t, ls⟩ = 0) : Backs 5 ⟨5, n, t, ls⟩ tl := by
  rw [faultP_5] at hf
  obtain ⟨a1, a2⟩ := namesBad_ok hf
  have hj := joinU_le ls a2
  unfold Backs
  rw [rKind_5, bytesP_5, show ownP ⟨5, n, t, ls⟩ = ⟨5, 0, [], ls⟩ from rfl]
  have hlen : (u8i (joinU ls)).length = (joinU ls).length := by unfold u8i; rw [List.length_map]
  have hT := rText_back (u8i (joinU ls)) tl (by omega)
  rw [hlen] at hT
  unfold rNames
  rw [hT]
  unfold rNamesT
  rw [if_neg (by simp)]
  dsimp only
  by_cases h0 : ls = []
  · subst h0
    rw [if_pos (by rfl)]
  · have hok : ∀ s ∈ ls, nameOk s = true := by
      unfold namesBad at hf
      split at hf
      · cases hf
      · split at hf
        · rename_i h8
          exact List.all_eq_true.1 h8
        · cases hf
    have hne : u8i (joinU ls) ≠ [] := fun e => joinU_ne h0 hok (List.map_eq_nil_iff.1 e)
    rw [if_neg hne, join_pieces ls h0 hok _ (str_u8i _), hf]
theorem back6 (n : Int) (t : List Int) (ls : List ByteArray) (hf : faultP ⟨6, n, t, ls⟩ = 0) : Backs 6 ⟨6, n, t, ls⟩ [] := by
  rw [faultP_6] at hf
  unfold Backs
  rw [rKind_6, bytesP_6, show ownP ⟨6, n, t, ls⟩ = ⟨6, 0, t, []⟩ from rfl, List.append_nil]
  unfold rRest
  rw [hf]
theorem kind_back (p : PF) (tl : List Int) (h1 : 1 ≤ p.kind) (h6 : p.kind ≤ 6) (hn : 0 ≤ p.n ∧ p.n ≤ 4294967295) (hf : faultP p = 0) (hlast : p.kind = 6 → tl = []) : Backs p.kind.toNat p tl := by
  obtain ⟨k, n, t, ls⟩ := p
  dsimp only at h1 h6 hn hlast ⊢
  have hk : k = 1 ∨ k = 2 ∨ k = 3 ∨ k = 4 ∨ k = 5 ∨ k = 6 := by omega
  rcases hk with rfl | rfl | rfl | rfl | rfl | rfl
  · exact back1 n t ls tl hn.1 hf
  · exact back2 n t ls tl hn.1 hf
  · exact back3 n t ls tl hn
  · exact back4 n t ls tl hf
  · exact back5 n t ls tl hf
  · obtain rfl := hlast rfl
    exact back6 n t ls hf
theorem readFrom_back : ∀ (ps : List PF) (acc : List PF), (∀ p ∈ ps, (1 ≤ p.kind ∧ p.kind ≤ 6) ∧ faultP p = 0 ∧ 0 ≤ p.n ∧ p.n ≤ 4294967295) → (∀ i p, ps[i]? = some p → p.kind = 6 → i + 1 = ps.length) →
    readFrom (ps.map (·.kind)) (ps.flatMap bytesP) acc = (0, acc ++ ps.map ownP)
  | [], acc, _, _ => by simp [readFrom]
  | p :: ps, acc, h, hl => by
    obtain ⟨hk, hf, hn⟩ := h p (by simp)
    have hlast : p.kind = 6 → ps.flatMap bytesP = [] := fun h6 => by
      have := hl 0 p rfl h6
      simp at this
      rw [this]; rfl
    have hb := kind_back p (ps.flatMap bytesP) hk.1 hk.2 hn hf hlast
    unfold Backs at hb
    rw [List.map_cons, List.flatMap_cons]
    unfold readFrom
    rw [hb]
    rw [if_neg (by simp)]
    dsimp only
    rw [readFrom_back ps _ (fun q hq => h q (by simp [hq])) (fun i q hq h6 => by have := hl (i + 1) q (by simpa using hq) h6; simp at this; omega)]
    rw [List.map_cons, List.append_assoc]
    rfl
/-- What is written is read, with what the kinds name. -/
theorem back_law (ps : List PF) (h : OkP ps) (hn : ∀ p ∈ ps, 0 ≤ p.n ∧ p.n ≤ 4294967295) : readP (ps.map (·.kind)) (ps.flatMap bytesP) = (0, ps.map ownP) := by
  unfold readP
  rw [if_pos h.1]
  refine readFrom_back ps [] (fun p hp => ⟨rowOk_range h.1 p.kind (List.mem_map_of_mem hp), h.2.1 p hp, hn p hp⟩) (fun i p hp h6 => ?_)
  have hi : i < ps.length := (List.getElem?_eq_some_iff.1 hp).1
  have := rowOk_iff.1 h.1 i (by rw [List.length_map]; exact hi)
  unfold goodAt at this
  rw [show (ps.map (·.kind)).getD i 0 = 6 by simp [List.getD, hp, h6]] at this
  simp at this
  have := this.2
  omega
theorem sizeP_ok {p : PF} (h1 : 1 ≤ p.kind) (h6 : p.kind ≤ 6) (hf : faultP p = 0) : sizeP p = (bytesP p).length := if_pos ⟨h1, h6, hf⟩
theorem bytesP_range {p : PF} (h : InB p.text) : InB (bytesP p) := by
  unfold bytesP
  split
  · intro x hx; simp at hx; omega
  split
  · intro x hx; simp at hx; omega
  split
  · exact four_range _
  split
  · intro x hx
    rcases List.mem_append.1 hx with hx | hx
    · exact four_range _ x hx
    · exact h x hx
  split
  · intro x hx
    rcases List.mem_append.1 hx with hx | hx
    · exact four_range _ x hx
    · exact u8i_range _ x hx
  · exact h
end Go.Proofs.YtdmjabfjkkjhbaaDoor
