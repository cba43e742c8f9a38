/- Layer 3: the plain laws: what is encoded is decoded, what is decoded is encoded again, payloads cut short; no program in sight. -/
import Derived.Test.YtdmjabfjkkjhbaaGreatDoorMsgJ
namespace Go.Proofs.YtdmjabfjkkjhbaaGreatDoor
set_option linter.all false
open Go.RowKit

/-- A part of m laid into x. -/
def cpM (m x : MD) (j : Nat) : MD := match j with
  | 0 => { x with code := m.code }
  | 1 => { x with dA := m.dA, dc := m.dc, data := m.data }
  | 2 => { x with lang := m.lang }
  | 3 => { x with name := m.name }
  | 4 => { x with want := m.want }
  | 5 => { x with dA := m.dA, dc := m.dc, data := m.data }
  | 6 => { x with sender := m.sender }
  | 7 => { x with window := m.window }
  | 8 => { x with packet := m.packet }
  | _ => { x with chan := m.chan }
/-- A message with the fields of its kind alone. -/
def ownM (m : MD) : MD := match rowL m.kind with
  | none => firstM m.kind
  | some js => js.foldl (cpM m) (firstM m.kind)
/-- The same message, wherever its data lies. -/
structure SameM (a b : MD) : Prop where
  kind : b.kind = a.kind
  chan : b.chan = a.chan
  sender : b.sender = a.sender
  window : b.window = a.window
  packet : b.packet = a.packet
  code : b.code = a.code
  name : b.name = a.name
  lang : b.lang = a.lang
  want : b.want = a.want
  data : b.data = a.data
theorem SameM.refl (a : MD) : SameM a a := ⟨rfl, rfl, rfl, rfl, rfl, rfl, rfl, rfl, rfl, rfl⟩
theorem SameM.symm {a b : MD} (h : SameM a b) : SameM b a := ⟨h.kind.symm, h.chan.symm, h.sender.symm, h.window.symm, h.packet.symm, h.code.symm, h.name.symm, h.lang.symm, h.want.symm, h.data.symm⟩
theorem SameM.trans {a b c : MD} (h : SameM a b) (g : SameM b c) : SameM a c := ⟨g.kind.trans h.kind, g.chan.trans h.chan, g.sender.trans h.sender, g.window.trans h.window, g.packet.trans h.packet, g.code.trans h.code, g.name.trans h.name, g.lang.trans h.lang, g.want.trans h.want, g.data.trans h.data⟩
theorem msame_any (a b : MD) (w : World) (ha : a.ok w) (hb : b.ok w) (h : SameM a b) : Calls Tryz.prog 11 #[a.val, b.val] w fun e w' => e = .returned (.bool true) ∧ Only [] w w' :=
  msame_true a b w ha hb h.kind h.chan h.sender h.window h.packet h.code h.name h.lang h.want h.data
theorem str_sOf (s : ByteArray) : strOfNums (sOf s) = s := bytes_ext (str_u8i _)
theorem put_cp {m x y : MD} {f : FD} (j : Nat) (h : SameM x y) (hp : f.pf = partP m j) : SameM (putM x j f) (cpM m y j) := by
  have hn : f.n = (partP m j).n := by rw [← hp]; rfl
  have ht : f.text = (partP m j).text := by rw [← hp]; rfl
  clear hp
  match j, hn, ht with
  | 0, hn, _ => exact { h with code := hn.symm }
  | 1, _, ht => exact { h with data := ht.symm }
  | 2, _, ht => exact { h with lang := by show m.lang = strOfNums f.text; rw [ht]; exact (str_sOf m.lang).symm }
  | 3, _, ht => exact { h with name := by show m.name = strOfNums f.text; rw [ht]; exact (str_sOf m.name).symm }
  | 4, hn, _ => exact { h with want := by show m.want = (f.n == 1); rw [hn]; show m.want = ((if m.want then (1 : Int) else 0) == 1); cases m.want <;> rfl }
  | 5, _, ht => exact { h with data := ht.symm }
  | 6, hn, _ => exact { h with sender := hn.symm }
  | 7, hn, _ => exact { h with window := hn.symm }
  | 8, hn, _ => exact { h with packet := hn.symm }
  | n + 9, hn, _ => exact { h with chan := hn.symm }
theorem all_cp {m : MD} : ∀ (js : List Nat) (fs : List FD) (x y : MD), SameM x y → fs.map FD.pf = js.map (partP m) → SameM (putAll x js fs) (js.foldl (cpM m) y)
  | [], [], x, y, h, _ => h
  | [], f :: fs, x, y, _, hp => by simp at hp
  | j :: js, [], x, y, _, hp => by simp at hp
  | j :: js, f :: fs, x, y, h, hp => by
    rw [List.map_cons, List.map_cons] at hp
    injection hp with h1 h2
    exact all_cp js fs _ _ (put_cp j h h1) h2
theorem pk_part (m : MD) (j : Nat) : (partP m j).kind = pk j := by
  match j with
  | 0 | 1 | 2 | 3 | 4 | 5 | 6 | 7 | 8 => rfl
  | n + 9 => rfl
theorem own_part (m : MD) (j : Nat) : ownP (partP m j) = partP m j := by
  match j with
  | 0 | 1 | 2 | 3 | 4 | 5 | 6 | 7 | 8 => rfl
  | n + 9 => rfl
theorem part_n {m : MD} (h : U32 m.chan ∧ U32 m.sender ∧ U32 m.window ∧ U32 m.packet ∧ U32 m.code) (j : Nat) : 0 ≤ (partP m j).n ∧ (partP m j).n ≤ 4294967295 := by
  obtain ⟨n1, n2, n3, n4, n5⟩ := h
  match j with
  | 0 => exact n5
  | 1 | 2 | 3 | 5 => exact ⟨Int.le_refl 0, show (0 : Int) ≤ 4294967295 by decide⟩
  | 4 => show 0 ≤ (if m.want then (1 : Int) else 0) ∧ (if m.want then (1 : Int) else 0) ≤ 4294967295; split <;> omega
  | 6 => exact n2
  | 7 => exact n3
  | 8 => exact n4
  | n + 9 => exact n1
def apart (i j : Nat) : Bool := decide (i ≠ j) && !(decide (i = 1) && decide (j = 5)) && !(decide (i = 5) && decide (j = 1)) && decide (i ≤ 9) && decide (j ≤ 9)
theorem print_le {s : ByteArray} {n : Nat} (h : printOk s n = true) : s.size ≤ 64 := by
  unfold printOk at h
  simp only [Bool.and_eq_true, decide_eq_true_eq] at h
  exact h.1.2
theorem empty_le {s : ByteArray} (h : (⟨#[]⟩ : ByteArray) = s) : s.size ≤ 64 := by
  rw [← h]
  exact Nat.zero_le _
/-- What a row of parts is. -/
structure RowIs (k : Int) (js : List Nat) : Prop where
  range : 1 ≤ k ∧ k ≤ 100
  ok : rowOk (1 :: js.map pk) = true
  apart : js.Pairwise fun i j => apart i j = true
  short : (k = 80 ∨ k = 81 ∨ k = 90 ∨ k = 91 ∨ k = 98) ∨ ∀ j ∈ js, pk j = 1 ∨ pk j = 2 ∨ pk j = 3 ∨ pk j = 4
  one : (readP (1 :: js.map pk) [k]).1 ≠ 8
  fits : ∀ m : MD, m.kind = k → fitsP (js.foldl (cpM m) (firstM k)) = fitsP m
  known : k = 1 ∨ (80 ≤ k ∧ k ≤ 82) ∨ (90 ≤ k ∧ k ≤ 100)
  small : ∀ m : MD, m.kind = k → fitsP m = true → (js.foldl (cpM m) (firstM k)).name = m.name → (js.foldl (cpM m) (firstM k)).lang = m.lang → m.name.size ≤ 64 ∧ m.lang.size ≤ 64
set_option maxRecDepth 100000 in
theorem row_is {k : Int} {js : List Nat} (h : rowL k = some js) : RowIs k js := by
  by_cases h1 : k = 1
  · subst h1
    obtain rfl : [0, 1, 2] = js := Option.some.inj h
    exact ⟨by decide, by decide, by decide, .inr (by decide), by decide, fun m hm => by obtain ⟨kind, chan, sender, window, packet, code, name, lang, want, dA, dc, data⟩ := m; dsimp only at hm; subst hm; rfl, by decide, fun m hm hf hn hl => by obtain ⟨kind, chan, sender, window, packet, code, name, lang, want, dA, dc, data⟩ := m; dsimp only at hm; subst hm; exact ⟨empty_le hn, print_le (n := 0) hf⟩⟩
  by_cases h80 : k = 80
  · subst h80
    obtain rfl : [3, 4, 5] = js := Option.some.inj h
    exact ⟨by decide, by decide, by decide, .inl (by decide), by decide, fun m hm => by obtain ⟨kind, chan, sender, window, packet, code, name, lang, want, dA, dc, data⟩ := m; dsimp only at hm; subst hm; rfl, by decide, fun m hm hf hn hl => by obtain ⟨kind, chan, sender, window, packet, code, name, lang, want, dA, dc, data⟩ := m; dsimp only at hm; subst hm; exact ⟨print_le (n := 1) hf, empty_le hl⟩⟩
  by_cases h81 : k = 81
  · subst h81
    obtain rfl : [5] = js := Option.some.inj h
    exact ⟨by decide, by decide, by decide, .inl (by decide), by decide, fun m hm => by obtain ⟨kind, chan, sender, window, packet, code, name, lang, want, dA, dc, data⟩ := m; dsimp only at hm; subst hm; rfl, by decide, fun m hm hf hn hl => by obtain ⟨kind, chan, sender, window, packet, code, name, lang, want, dA, dc, data⟩ := m; dsimp only at hm; subst hm; exact ⟨empty_le hn, empty_le hl⟩⟩
  by_cases h82 : k = 82
  · subst h82
    obtain rfl : ([] : List Nat) = js := Option.some.inj h
    exact ⟨by decide, by decide, by decide, .inr (by decide), by decide, fun m hm => by obtain ⟨kind, chan, sender, window, packet, code, name, lang, want, dA, dc, data⟩ := m; dsimp only at hm; subst hm; rfl, by decide, fun m hm hf hn hl => by obtain ⟨kind, chan, sender, window, packet, code, name, lang, want, dA, dc, data⟩ := m; dsimp only at hm; subst hm; exact ⟨empty_le hn, empty_le hl⟩⟩
  by_cases h90 : k = 90
  · subst h90
    obtain rfl : [3, 6, 7, 8, 5] = js := Option.some.inj h
    exact ⟨by decide, by decide, by decide, .inl (by decide), by decide, fun m hm => by obtain ⟨kind, chan, sender, window, packet, code, name, lang, want, dA, dc, data⟩ := m; dsimp only at hm; subst hm; rfl, by decide, fun m hm hf hn hl => by obtain ⟨kind, chan, sender, window, packet, code, name, lang, want, dA, dc, data⟩ := m; dsimp only at hm; subst hm; exact ⟨print_le (n := 1) hf, empty_le hl⟩⟩
  by_cases h91 : k = 91
  · subst h91
    obtain rfl : [9, 6, 7, 8, 5] = js := Option.some.inj h
    exact ⟨by decide, by decide, by decide, .inl (by decide), by decide, fun m hm => by obtain ⟨kind, chan, sender, window, packet, code, name, lang, want, dA, dc, data⟩ := m; dsimp only at hm; subst hm; rfl, by decide, fun m hm hf hn hl => by obtain ⟨kind, chan, sender, window, packet, code, name, lang, want, dA, dc, data⟩ := m; dsimp only at hm; subst hm; exact ⟨empty_le hn, empty_le hl⟩⟩
  by_cases h92 : k = 92
  · subst h92
    obtain rfl : [9, 0, 1, 2] = js := Option.some.inj h
    exact ⟨by decide, by decide, by decide, .inr (by decide), by decide, fun m hm => by obtain ⟨kind, chan, sender, window, packet, code, name, lang, want, dA, dc, data⟩ := m; dsimp only at hm; subst hm; rfl, by decide, fun m hm hf hn hl => by obtain ⟨kind, chan, sender, window, packet, code, name, lang, want, dA, dc, data⟩ := m; dsimp only at hm; subst hm; exact ⟨empty_le hn, print_le (n := 0) hf⟩⟩
  by_cases h93 : k = 93
  · subst h93
    obtain rfl : [9, 7] = js := Option.some.inj h
    exact ⟨by decide, by decide, by decide, .inr (by decide), by decide, fun m hm => by obtain ⟨kind, chan, sender, window, packet, code, name, lang, want, dA, dc, data⟩ := m; dsimp only at hm; subst hm; rfl, by decide, fun m hm hf hn hl => by obtain ⟨kind, chan, sender, window, packet, code, name, lang, want, dA, dc, data⟩ := m; dsimp only at hm; subst hm; exact ⟨empty_le hn, empty_le hl⟩⟩
  by_cases h94 : k = 94
  · subst h94
    obtain rfl : [9, 1] = js := Option.some.inj h
    exact ⟨by decide, by decide, by decide, .inr (by decide), by decide, fun m hm => by obtain ⟨kind, chan, sender, window, packet, code, name, lang, want, dA, dc, data⟩ := m; dsimp only at hm; subst hm; rfl, by decide, fun m hm hf hn hl => by obtain ⟨kind, chan, sender, window, packet, code, name, lang, want, dA, dc, data⟩ := m; dsimp only at hm; subst hm; exact ⟨empty_le hn, empty_le hl⟩⟩
  by_cases h95 : k = 95
  · subst h95
    obtain rfl : [9, 0, 1] = js := Option.some.inj h
    exact ⟨by decide, by decide, by decide, .inr (by decide), by decide, fun m hm => by obtain ⟨kind, chan, sender, window, packet, code, name, lang, want, dA, dc, data⟩ := m; dsimp only at hm; subst hm; rfl, by decide, fun m hm hf hn hl => by obtain ⟨kind, chan, sender, window, packet, code, name, lang, want, dA, dc, data⟩ := m; dsimp only at hm; subst hm; exact ⟨empty_le hn, empty_le hl⟩⟩
  by_cases h96 : k = 96
  · subst h96
    obtain rfl : [9] = js := Option.some.inj h
    exact ⟨by decide, by decide, by decide, .inr (by decide), by decide, fun m hm => by obtain ⟨kind, chan, sender, window, packet, code, name, lang, want, dA, dc, data⟩ := m; dsimp only at hm; subst hm; rfl, by decide, fun m hm hf hn hl => by obtain ⟨kind, chan, sender, window, packet, code, name, lang, want, dA, dc, data⟩ := m; dsimp only at hm; subst hm; exact ⟨empty_le hn, empty_le hl⟩⟩
  by_cases h97 : k = 97
  · subst h97
    obtain rfl : [9] = js := Option.some.inj h
    exact ⟨by decide, by decide, by decide, .inr (by decide), by decide, fun m hm => by obtain ⟨kind, chan, sender, window, packet, code, name, lang, want, dA, dc, data⟩ := m; dsimp only at hm; subst hm; rfl, by decide, fun m hm hf hn hl => by obtain ⟨kind, chan, sender, window, packet, code, name, lang, want, dA, dc, data⟩ := m; dsimp only at hm; subst hm; exact ⟨empty_le hn, empty_le hl⟩⟩
  by_cases h99 : k = 99
  · subst h99
    obtain rfl : [9] = js := Option.some.inj h
    exact ⟨by decide, by decide, by decide, .inr (by decide), by decide, fun m hm => by obtain ⟨kind, chan, sender, window, packet, code, name, lang, want, dA, dc, data⟩ := m; dsimp only at hm; subst hm; rfl, by decide, fun m hm hf hn hl => by obtain ⟨kind, chan, sender, window, packet, code, name, lang, want, dA, dc, data⟩ := m; dsimp only at hm; subst hm; exact ⟨empty_le hn, empty_le hl⟩⟩
  by_cases h100 : k = 100
  · subst h100
    obtain rfl : [9] = js := Option.some.inj h
    exact ⟨by decide, by decide, by decide, .inr (by decide), by decide, fun m hm => by obtain ⟨kind, chan, sender, window, packet, code, name, lang, want, dA, dc, data⟩ := m; dsimp only at hm; subst hm; rfl, by decide, fun m hm hf hn hl => by obtain ⟨kind, chan, sender, window, packet, code, name, lang, want, dA, dc, data⟩ := m; dsimp only at hm; subst hm; exact ⟨empty_le hn, empty_le hl⟩⟩
  by_cases h98 : k = 98
  · subst h98
    obtain rfl : [9, 3, 4, 5] = js := Option.some.inj h
    exact ⟨by decide, by decide, by decide, .inl (by decide), by decide, fun m hm => by obtain ⟨kind, chan, sender, window, packet, code, name, lang, want, dA, dc, data⟩ := m; dsimp only at hm; subst hm; rfl, by decide, fun m hm hf hn hl => by obtain ⟨kind, chan, sender, window, packet, code, name, lang, want, dA, dc, data⟩ := m; dsimp only at hm; subst hm; exact ⟨print_le (n := 1) hf, empty_le hl⟩⟩
  unfold rowL at h
  simp [*] at h
theorem row_none {k : Int} (h : rowL k = none) : ¬ (k = 1 ∨ (80 ≤ k ∧ k ≤ 82) ∨ (90 ≤ k ∧ k ≤ 100)) := by
  intro g
  have : k = 1 ∨ k = 80 ∨ k = 81 ∨ k = 82 ∨ k = 90 ∨ k = 91 ∨ k = 92 ∨ k = 93 ∨ k = 94 ∨ k = 95 ∨ k = 96 ∨ k = 97 ∨ k = 98 ∨ k = 99 ∨ k = 100 := by omega
  rcases this with rfl | rfl | rfl | rfl | rfl | rfl | rfl | rfl | rfl | rfl | rfl | rfl | rfl | rfl | rfl <;> cases h
theorem fits_same {a b : MD} (h : SameM a b) : fitsP b = fitsP a := by
  unfold fitsP
  rw [h.kind, h.name, h.lang]
theorem fits_own {m : MD} {js : List Nat} (h : rowL m.kind = some js) : fitsP (ownM m) = fitsP m := by
  unfold ownM
  rw [h]
  exact (row_is h).fits m rfl
/-- What is encoded: the error is told of an empty payload; a payload is the kind and the parts. -/
theorem enc_ok {m : MD} (hz : (encP m).1 = 0) : ∃ js, rowL m.kind = some js ∧ fitsP m = true ∧ OkP (⟨1, m.kind, [], []⟩ :: js.map (partP m)) ∧ (encP m).2 = m.kind :: (js.map (partP m)).flatMap bytesP := by
  unfold encP at hz ⊢
  cases hr : rowL m.kind with
  | none => rw [hr] at hz; cases hz
  | some js =>
    rw [hr] at hz
    dsimp only at hz ⊢
    by_cases hf : fitsP m = true
    · rw [if_pos hf] at hz ⊢
      by_cases h : OkP (⟨1, m.kind, [], []⟩ :: js.map (partP m))
      · refine ⟨js, rfl, hf, h, ?_⟩
        rw [writeP_ok h, List.flatMap_cons, bytesP_1]
        have := (row_is hr).range
        rw [show m.kind % 256 = m.kind by omega]
        rfl
      · obtain ⟨e, he, h2⟩ := writeP_bad h
        rw [h2] at hz
        exact absurd hz he
    · rw [if_neg hf] at hz
      cases hz
theorem enc_bad {m : MD} (hz : (encP m).1 ≠ 0) : (encP m).2 = [] := by
  unfold encP at hz ⊢
  cases hr : rowL m.kind with
  | none => rfl
  | some js =>
    rw [hr] at hz
    dsimp only at hz ⊢
    split at hz
    · rename_i hf
      rw [if_pos hf]
      by_cases h : OkP (⟨1, m.kind, [], []⟩ :: js.map (partP m))
      · rw [writeP_ok h] at hz
        exact absurd rfl hz
      · obtain ⟨e, he, h2⟩ := writeP_bad h
        rw [h2]
    · rename_i hf
      rw [if_neg hf]
theorem part_kinds (m : MD) (js : List Nat) : (⟨1, m.kind, [], []⟩ :: js.map (partP m) : List PF).map (·.kind) = 1 :: js.map pk := by
  rw [List.map_cons, List.map_map]
  congr 1
  exact List.map_congr_left (fun j _ => pk_part m j)
theorem part_own (m : MD) (js : List Nat) : (⟨1, m.kind, [], []⟩ :: js.map (partP m) : List PF).map ownP = ⟨1, m.kind, [], []⟩ :: js.map (partP m) := by
  rw [List.map_cons, List.map_map]
  congr 1
  exact List.map_congr_left (fun j _ => own_part m j)
/-- What is encoded is read as its parts. -/
theorem enc_read {m : MD} {js : List Nat} (hr : rowL m.kind = some js) (hn : U32 m.chan ∧ U32 m.sender ∧ U32 m.window ∧ U32 m.packet ∧ U32 m.code) (h : OkP (⟨1, m.kind, [], []⟩ :: js.map (partP m))) :
    readP (1 :: js.map pk) (m.kind :: (js.map (partP m)).flatMap bytesP) = (0, ⟨1, m.kind, [], []⟩ :: js.map (partP m)) := by
  have hk := (row_is hr).range
  have hb := back_law _ h (fun p hp => by
    rcases List.mem_cons.1 hp with rfl | hp
    · exact ⟨by dsimp only; omega, by dsimp only; omega⟩
    · obtain ⟨j, _, rfl⟩ := List.mem_map.1 hp
      exact part_n hn j)
  rw [part_kinds, part_own, List.flatMap_cons, bytesP_1, show m.kind % 256 = m.kind by omega] at hb
  exact hb
/-- What Decode hands on, without memory. -/
def DecIs (l : List Int) (m : MD) (E : Int) : Prop :=
  match l with
  | [] => E = 3 ∧ m = zeroM
  | k :: _ => match rowL k with
    | none => E = 8 ∧ m = zeroM
    | some js => if (readP (1 :: js.map pk) l).1 ≠ 0 then E = (readP (1 :: js.map pk) l).1 ∧ m = zeroM
      else ∃ fs : List FD, fs.map FD.pf = (readP (1 :: js.map pk) l).2 ∧ if fitsP (putAll (firstM k) js fs.tail) then E = 0 ∧ m = putAll (firstM k) js fs.tail else E = 4 ∧ m = zeroM
theorem dec_bad {l : List Int} {m : MD} {E : Int} (h : DecIs l m E) (hE : E ≠ 0) : m = zeroM := by
  unfold DecIs at h
  split at h
  · exact h.2
  · split at h
    · exact h.2
    · split at h
      · exact h.2
      · obtain ⟨fs, _, h⟩ := h
        split at h
        · exact absurd h.1 hE
        · exact h.2
/-- What is encoded is decoded, with the fields of its kind. -/
theorem mback_law {m x : MD} {E : Int} (hn : U32 m.chan ∧ U32 m.sender ∧ U32 m.window ∧ U32 m.packet ∧ U32 m.code) (hz : (encP m).1 = 0) (h : DecIs (encP m).2 x E) :
    E = 0 ∧ SameM x (ownM m) ∧ (encP m).2.length ≤ 33792 ∧ ∃ t, (encP m).2 = m.kind :: t := by
  obtain ⟨js, hr, hf, ho, he⟩ := enc_ok hz
  have hlen : (encP m).2.length ≤ 33792 := by
    have := ho.2.2
    rw [List.flatMap_cons, bytesP_1, List.length_append] at this
    rw [he, List.length_cons]
    simp only [List.length_cons, List.length_nil] at this
    omega
  rw [he] at h
  unfold DecIs at h
  dsimp only at h
  rw [hr] at h
  dsimp only at h
  rw [enc_read hr hn ho, if_neg (by simp)] at h
  obtain ⟨fs, h1, h⟩ := h
  have h2 : fs.tail.map FD.pf = js.map (partP m) := by
    rw [List.map_tail, h1]
    rfl
  have hs := all_cp (m := m) js fs.tail (firstM m.kind) (firstM m.kind) (SameM.refl _) h2
  have hs2 : SameM (putAll (firstM m.kind) js fs.tail) (ownM m) := by
    unfold ownM
    rw [hr]
    exact hs
  rw [if_pos (by rw [← fits_same hs2, fits_own hr]; exact hf)] at h
  refine ⟨h.1, ?_, hlen, _, he⟩
  rw [h.2]
  exact hs2
/-- What is read is as its kind says. -/
theorem rKind_own (k : Nat) (h1 : 1 ≤ k) (h6 : k ≤ 6) (l : List Int) : ownP ⟨k, (rKind k l).n, (rKind k l).text, (rKind k l).list⟩ = ⟨k, (rKind k l).n, (rKind k l).text, (rKind k l).list⟩ := by
  have ho : (rOctet l).text = [] ∧ (rOctet l).list = [] := by unfold rOctet rShort; split <;> exact ⟨rfl, rfl⟩
  have hN : (rNumber l).text = [] ∧ (rNumber l).list = [] := by unfold rNumber rShort; split <;> exact ⟨rfl, rfl⟩
  have hT := rText_text l
  have hL : (rNames l).text = [] ∧ (rNames l).n = 0 := by unfold rNames rNamesT; split; exact ⟨rfl, rfl⟩; split <;> exact ⟨rfl, rfl⟩
  have hk : k = 1 ∨ k = 2 ∨ k = 3 ∨ k = 4 ∨ k = 5 ∨ k = 6 := by omega
  rcases hk with rfl | rfl | rfl | rfl | rfl | rfl
  · rw [rKind_1, ho.1, ho.2]; rfl
  · rw [rKind_2, show (rFlag l).text = (rOctet l).text from rfl, show (rFlag l).list = (rOctet l).list from rfl, ho.1, ho.2]; rfl
  · rw [rKind_3, hN.1, hN.2]; rfl
  · rw [rKind_4, hT.2.1, hT.2.2]; rfl
  · rw [rKind_5, hL.1, hL.2]; rfl
  · rw [rKind_6]; rfl
theorem readFrom_own : ∀ (ks l : List Int) (acc : List PF), (∀ k ∈ ks, 1 ≤ k ∧ k ≤ 6) → (∀ p ∈ acc, ownP p = p) → ∀ p ∈ (readFrom ks l acc).2, ownP p = p
  | [], l, acc, _, ha => by
    unfold readFrom
    split
    · exact fun p hp => by simp at hp
    · exact ha
  | k :: ks, l, acc, hk, ha => by
    have h16 := hk k (by simp)
    obtain ⟨j, rfl⟩ := Int.eq_ofNat_of_zero_le (show 0 ≤ k by omega)
    unfold readFrom
    split
    · exact fun p hp => by simp at hp
    · refine readFrom_own ks _ _ (fun k hk2 => hk k (by simp [hk2])) (fun p hp => ?_)
      rcases List.mem_append.1 hp with hp | hp
      · exact ha p hp
      · simp only [List.mem_singleton] at hp
        subst hp
        rw [Int.toNat_natCast]
        exact rKind_own j (by omega) (by omega) l
theorem readP_own (ks l : List Int) : ∀ p ∈ (readP ks l).2, ownP p = p := by
  unfold readP
  split
  · rename_i hr
    exact readFrom_own ks l [] (rowOk_range hr) (fun p hp => by simp at hp)
  · exact fun p hp => by simp at hp
/-- A part that was put is got. -/
theorem put_self {x : MD} {f : FD} (j : Nat) (hk : f.pf.kind = pk j) (ho : ownP f.pf = f.pf) (hf : faultP f.pf = 0) (hn : 0 ≤ f.n) (hb : InB f.text) : partP (putM x j f) j = f.pf := by
  obtain ⟨fk, fn, fA, fc, ft, fB, fd, fl⟩ := f
  have e : FD.pf ⟨fk, fn, fA, fc, ft, fB, fd, fl⟩ = ⟨fk, fn, ft, fl⟩ := rfl
  rw [e] at ho hk hf ⊢
  dsimp only at hk hn hb
  have hu := u8i_str hb
  clear e
  match j, hk with
  | 0, hk => subst hk; rw [← ho]; rfl
  | 1, hk => subst hk; rw [← ho]; rfl
  | 2, hk => subst hk; rw [← ho]; show (⟨4, 0, u8i (strOfNums ft).data.toList, []⟩ : PF) = _; rw [hu]; rfl
  | 3, hk => subst hk; rw [← ho]; show (⟨4, 0, u8i (strOfNums ft).data.toList, []⟩ : PF) = _; rw [hu]; rfl
  | 4, hk =>
    subst hk
    rw [show faultP ⟨pk 4, fn, ft, fl⟩ = over fn 1 5 from rfl] at hf
    have := over_ok hf (by decide)
    have h01 : fn = 0 ∨ fn = 1 := by omega
    rw [← ho]
    rcases h01 with rfl | rfl <;> rfl
  | 5, hk => subst hk; rw [← ho]; rfl
  | 6, hk => subst hk; rw [← ho]; rfl
  | 7, hk => subst hk; rw [← ho]; rfl
  | 8, hk => subst hk; rw [← ho]; rfl
  | n + 9, hk => subst hk; rw [← ho]; rfl
theorem put_stay {x : MD} {f : FD} (i j : Nat) (h : apart i j = true) : partP (putM x i f) j = partP x j := by
  unfold apart at h
  simp only [Bool.and_eq_true, Bool.not_eq_true', Bool.and_eq_false_iff, decide_eq_true_eq, decide_eq_false_iff_not] at h
  obtain ⟨⟨⟨⟨h1, h2⟩, h3⟩, h4⟩, h5⟩ := h
  have hi : i = 0 ∨ i = 1 ∨ i = 2 ∨ i = 3 ∨ i = 4 ∨ i = 5 ∨ i = 6 ∨ i = 7 ∨ i = 8 ∨ i = 9 := by omega
  have hj : j = 0 ∨ j = 1 ∨ j = 2 ∨ j = 3 ∨ j = 4 ∨ j = 5 ∨ j = 6 ∨ j = 7 ∨ j = 8 ∨ j = 9 := by omega
  rcases hi with rfl | rfl | rfl | rfl | rfl | rfl | rfl | rfl | rfl | rfl <;>
    rcases hj with rfl | rfl | rfl | rfl | rfl | rfl | rfl | rfl | rfl | rfl <;> first | rfl | (exfalso; omega)
theorem putAll_stay : ∀ (js : List Nat) (fs : List FD) (x : MD) (j : Nat), (∀ i ∈ js, apart i j = true) → partP (putAll x js fs) j = partP x j
  | [], fs, x, j, _ => by unfold putAll; rfl
  | i :: js, [], x, j, _ => by unfold putAll; rfl
  | i :: js, f :: fs, x, j, h => by
    show partP (putAll (putM x i f) js fs) j = _
    rw [putAll_stay js fs _ j (fun i hi => h i (by simp [hi])), put_stay i j (h i (by simp))]
theorem apart_symm {i j : Nat} (h : apart i j = true) : apart j i = true := by
  unfold apart at h ⊢
  simp only [Bool.and_eq_true, Bool.not_eq_true', Bool.and_eq_false_iff, decide_eq_true_eq, decide_eq_false_iff_not] at h ⊢
  omega
theorem putAll_parts : ∀ (js : List Nat) (fs : List FD) (x : MD), js.Pairwise (fun i j => apart i j = true) → fs.map (fun f => f.pf.kind) = js.map pk →
    (∀ f ∈ fs, ownP f.pf = f.pf ∧ faultP f.pf = 0 ∧ 0 ≤ f.n ∧ InB f.text) → js.map (partP (putAll x js fs)) = fs.map FD.pf
  | [], [], x, _, _, _ => rfl
  | [], f :: fs, x, _, hp, _ => by simp at hp
  | j :: js, [], x, _, hp, _ => by simp at hp
  | j :: js, f :: fs, x, ha, hp, hf => by
    rw [List.map_cons, List.map_cons] at hp
    injection hp with h1 h2
    rw [List.pairwise_cons] at ha
    obtain ⟨f1, f2, f3, f4⟩ := hf f (by simp)
    show partP (putAll (putM x j f) js fs) j :: js.map (partP (putAll (putM x j f) js fs)) = _
    rw [putAll_parts js fs _ ha.2 h2 (fun g hg => hf g (by simp [hg])), putAll_stay js fs _ j (fun i hi => apart_symm (ha.1 i hi)), put_self j h1 f1 f2 f3 f4]
    rfl
theorem putM_kind (x : MD) (j : Nat) (f : FD) : (putM x j f).kind = x.kind := by
  unfold putM
  split <;> rfl
theorem putAll_kind : ∀ (js : List Nat) (fs : List FD) (x : MD), (putAll x js fs).kind = x.kind
  | [], fs, x => by unfold putAll; rfl
  | i :: js, [], x => by unfold putAll; rfl
  | i :: js, f :: fs, x => by
    show (putAll (putM x i f) js fs).kind = _
    rw [putAll_kind js fs, putM_kind]
/-- What is decoded is encoded again. -/
theorem magain_law {l : List Int} {m : MD} (hl : InB l) (hm : l.length ≤ 33792) (h : DecIs l m 0) :
    (encP m).1 = 0 ∧ (encP m).2.length = l.length ∧ (∃ k t u, l = k :: t ∧ (encP m).2 = k :: u) ∧ SameM m (ownM m) := by
  unfold DecIs at h
  split at h
  · exact absurd h.1 (by decide)
  rename_i k t
  split at h
  · exact absurd h.1 (by decide)
  rename_i js hr
  split at h
  · rename_i h0
    exact absurd h.1.symm h0
  rename_i h0
  obtain ⟨fs, h1, h⟩ := h
  split at h
  case isFalse => exact absurd h.1 (by decide)
  rename_i hf
  have hm2 := h.2
  have ri := row_is hr
  have hq := (readP_good (1 :: js.map pk) (k :: t) hl (by omega)).2
  have hown := readP_own (1 :: js.map pk) (k :: t)
  rcases again_law (1 :: js.map pk) (k :: t) hl hm with g | ⟨_, g1, g2, g3, g4⟩
  · exact absurd g.1 h0
  rw [← h1] at g1 g2 g3 g4 hq hown
  cases fs with
  | nil => simp at g1
  | cons f fs =>
    rw [List.tail_cons] at hm2 hf
    rw [List.map_cons, List.map_cons] at g1
    injection g1 with k1 k2
    have gf : ∀ g ∈ fs, ownP g.pf = g.pf ∧ faultP g.pf = 0 ∧ 0 ≤ g.n ∧ InB g.text := fun g hg => by
      have hy : g.pf ∈ List.map FD.pf (f :: fs) := List.mem_map_of_mem (List.mem_cons_of_mem _ hg)
      exact ⟨hown _ hy, (g3 _ hy).2.2.1, (g3 _ hy).2.2.2.1, (hq _ hy).2⟩
    have hparts := putAll_parts js fs (firstM k) ri.apart (by rw [List.map_map] at k2; exact k2) gf
    rw [← hm2] at hparts hf
    have hkind : m.kind = k := by rw [hm2, putAll_kind]; rfl
    have hfirst : f.pf = ⟨1, k, [], []⟩ := by
      obtain ⟨pre, rest, e1, e2, _⟩ := g4
      have z := hown f.pf (by simp)
      have q := (g3 f.pf (by simp))
      obtain ⟨fk, fn, fA, fc, ft, fB, fd, fl⟩ := f
      have e : FD.pf ⟨fk, fn, fA, fc, ft, fB, fd, fl⟩ = ⟨fk, fn, ft, fl⟩ := rfl
      rw [e] at z q k1 e2 ⊢
      dsimp only at k1
      subst k1
      unfold Match at e2
      rw [if_neg (show ¬ (1 : Int) = 2 by decide), bytesP_1] at e2
      have hfa := over_ok (show over fn 255 5 = 0 from q.2.2.1) (by decide)
      have h00 := q.2.2.2.1
      dsimp only at h00
      rw [← e2] at e1
      injection e1 with e1 _
      rw [← z]
      show (⟨1, fn, [], []⟩ : PF) = _
      rw [show fn = k by omega]
    have he : encP m = (0, (⟨1, k, [], []⟩ :: js.map (partP m) : List PF).flatMap bytesP) := by
      unfold encP
      rw [hkind, hr]
      dsimp only
      rw [if_pos hf]
      refine writeP_ok ?_
      rw [hparts, ← hfirst]
      exact g2
    have hs : SameM m (ownM m) := by
      have := all_cp (m := m) js fs (firstM k) (firstM k) (SameM.refl _) hparts.symm
      rw [← hm2] at this
      unfold ownM
      rw [hkind, hr]
      exact this
    refine ⟨by rw [he], ?_, ⟨k, t, (js.map (partP m)).flatMap bytesP, rfl, ?_⟩, hs⟩
    · rw [he, hparts, ← hfirst]
      exact g4.len
    · have := ri.range
      rw [he, List.flatMap_cons, bytesP_1, show k % 256 = k by omega]
      rfl
/-- A field cut short. -/
theorem rKind_cut (p : PF) (h4 : p.kind = 1 ∨ p.kind = 2 ∨ p.kind = 3 ∨ p.kind = 4) (hf : faultP p = 0) (k : Nat) (hk : k < (bytesP p).length) : (rKind p.kind.toNat ((bytesP p).take k)).e = 3 := by
  obtain ⟨pk, n, t, ls⟩ := p
  dsimp only at h4 ⊢
  rcases h4 with rfl | rfl | rfl | rfl
  · rw [bytesP_1] at hk ⊢
    obtain rfl : k = 0 := by simp at hk; omega
    rfl
  · rw [bytesP_2] at hk ⊢
    obtain rfl : k = 0 := by simp at hk; omega
    rfl
  · rw [bytesP_3] at hk ⊢
    rw [four_length] at hk
    show (rNumber ((four n).take k)).e = 3
    unfold rNumber
    rw [if_pos (by rw [List.length_take, four_length]; omega)]
    rfl
  · rw [bytesP_4] at hk ⊢
    rw [faultP_4] at hf
    have hle := over_ok hf (by decide)
    rw [List.length_append, four_length] at hk
    show (rText ((four t.length ++ t).take k)).e = 3
    unfold rText
    by_cases h : k < 4
    · rw [if_pos (by rw [List.length_take, List.length_append, four_length]; omega)]
      rfl
    · have hb : (four (t.length : Int) ++ t).take k = four t.length ++ t.take (k - 4) := by
        rw [List.take_append, four_length, List.take_of_length_le (by rw [four_length]; omega)]
      rw [hb, if_neg (by rw [List.length_append, four_length]; omega), be4_four _ _ (by omega) (by omega), List.drop_left' (four_length _), Int.toNat_natCast]
      unfold rTextN
      rw [if_neg (by omega), if_pos (by rw [List.length_take]; omega)]
theorem readFrom_cut : ∀ (ps : List PF) (acc : List PF) (k : Nat), (∀ p ∈ ps, (p.kind = 1 ∨ p.kind = 2 ∨ p.kind = 3 ∨ p.kind = 4) ∧ faultP p = 0 ∧ 0 ≤ p.n ∧ p.n ≤ 4294967295) → k < (ps.flatMap bytesP).length →
    (readFrom (ps.map (·.kind)) ((ps.flatMap bytesP).take k) acc).1 = 3
  | [], acc, k, _, hk => by simp at hk
  | p :: ps, acc, k, h, hk => by
    obtain ⟨h4, hf, hn⟩ := h p (by simp)
    rw [List.flatMap_cons, List.length_append] at hk
    rw [List.map_cons, List.flatMap_cons]
    unfold readFrom
    by_cases hc : k < (bytesP p).length
    · rw [List.take_append_of_le_length (by omega), rKind_cut p h4 hf k hc, if_pos (by decide)]
    · have e : (bytesP p ++ ps.flatMap bytesP).take k = bytesP p ++ (ps.flatMap bytesP).take (k - (bytesP p).length) := by
        rw [List.take_append, List.take_of_length_le (by omega)]
      have hb := kind_back p ((ps.flatMap bytesP).take (k - (bytesP p).length)) (by omega) (by omega) hn hf (by omega)
      unfold Backs at hb
      rw [e, hb, if_neg (by simp)]
      exact readFrom_cut ps _ _ (fun q hq => h q (by simp [hq])) (by omega)
theorem writeFrom_ne8 : ∀ (ps : List PF) (acc : List Int), (∀ p ∈ ps, faultP p ≠ 8) → (writeFrom ps acc).1 ≠ 8
  | [], acc, _ => by unfold writeFrom; exact (show (0 : Int) ≠ 8 by decide)
  | p :: ps, acc, h => by
    unfold writeFrom
    split
    · exact h p (by simp)
    · split
      · decide
      · exact writeFrom_ne8 ps _ (fun q hq => h q (by simp [hq]))
theorem over_ne8 {a b c : Int} (h : c ≠ 8) : over a b c ≠ 8 := by
  unfold over
  split
  · exact h
  · decide
theorem part_ne8 (m : MD) (j : Nat) : faultP (partP m j) ≠ 8 := by
  match j with
  | 0 | 6 | 7 | 8 => show (0 : Int) ≠ 8; decide
  | 1 | 2 | 3 => exact over_ne8 (a := (List.length _ : Nat)) (b := 32768) (c := 6) (by decide)
  | 4 => exact over_ne8 (b := 1) (c := 5) (by decide)
  | 5 => exact over_ne8 (a := (List.length _ : Nat)) (b := 33792) (c := 6) (by decide)
  | n + 9 => show (0 : Int) ≠ 8; decide
/-- Just the fifteen kinds are encoded. -/
theorem enc_8 (m : MD) : (encP m).1 = 8 ↔ rowL m.kind = none := by
  unfold encP
  cases hr : rowL m.kind with
  | none => exact ⟨fun _ => rfl, fun _ => rfl⟩
  | some js =>
    refine ⟨fun h => ?_, fun h => by cases h⟩
    exfalso
    revert h
    dsimp only
    split
    · unfold writeP
      split
      · refine writeFrom_ne8 _ _ (fun p hp => ?_)
        rcases List.mem_cons.1 hp with rfl | hp
        · exact over_ne8 (b := 255) (c := 5) (by decide)
        · obtain ⟨j, _, rfl⟩ := List.mem_map.1 hp
          exact part_ne8 m j
      · decide
    · decide
/-- Just the fifteen kinds are decoded. -/
theorem dec_8 {k : Int} {m : MD} {E : Int} (h : DecIs [k] m E) : E = 8 ↔ rowL k = none := by
  unfold DecIs at h
  dsimp only at h
  cases hr : rowL k with
  | none => rw [hr] at h; exact ⟨fun _ => rfl, fun _ => h.1⟩
  | some js =>
    rw [hr] at h
    dsimp only at h
    have h1 := (row_is hr).one
    refine ⟨fun e => ?_, fun e => by cases e⟩
    exfalso
    split at h
    · exact h1 (by rw [← h.1]; exact e)
    · obtain ⟨fs, _, h⟩ := h
      split at h
      · rw [h.1] at e; cases e
      · rw [h.1] at e; cases e
/-- A payload cut short. -/
theorem cut_law {m x : MD} {E : Int} {k : Nat} (hn : U32 m.chan ∧ U32 m.sender ∧ U32 m.window ∧ U32 m.packet ∧ U32 m.code) (hz : (encP m).1 = 0) (h1 : 1 ≤ k) (hk : k < (encP m).2.length)
    (hr : ¬ (m.kind = 80 ∨ m.kind = 81 ∨ m.kind = 90 ∨ m.kind = 91 ∨ m.kind = 98)) (h : DecIs ((encP m).2.take k) x E) : E = 3 := by
  obtain ⟨js, hw, hf, ho, he⟩ := enc_ok hz
  have ri := row_is hw
  have hs := ri.short.resolve_left hr
  have hkr := ri.range
  have hb : (encP m).2 = (⟨1, m.kind, [], []⟩ :: js.map (partP m) : List PF).flatMap bytesP := by
    rw [he, List.flatMap_cons, bytesP_1, show m.kind % 256 = m.kind by omega]
    rfl
  have hc := readFrom_cut (⟨1, m.kind, [], []⟩ :: js.map (partP m)) [] k (fun p hp => by
    have hfa := ho.2.1 p hp
    rcases List.mem_cons.1 hp with rfl | hp
    · exact ⟨.inl rfl, hfa, by dsimp only; omega, by dsimp only; omega⟩
    · obtain ⟨j, hj, rfl⟩ := List.mem_map.1 hp
      exact ⟨by rw [pk_part]; exact hs j hj, hfa, part_n hn j⟩) (by rw [← hb]; exact hk)
  rw [part_kinds, ← hb] at hc
  have hrd : (readP (1 :: js.map pk) ((encP m).2.take k)).1 = 3 := by
    unfold readP
    rw [if_pos ri.ok]
    exact hc
  obtain ⟨j, rfl⟩ : ∃ j, k = j + 1 := ⟨k - 1, by omega⟩
  rw [he, List.take_succ_cons] at h hrd
  unfold DecIs at h
  dsimp only at h
  rw [hw] at h
  dsimp only at h
  rw [if_pos (by rw [hrd]; decide)] at h
  rw [h.1, hrd]
theorem part_inb {m : MD} (h : ∀ x ∈ m.data, 0 ≤ x ∧ x < 256) (j : Nat) : InB (partP m j).text := by
  have z : InB [] := fun x hx => by simp at hx
  match j with
  | 0 | 4 | 6 | 7 | 8 => exact z
  | 1 | 5 => exact h
  | 2 | 3 => exact u8i_range _
  | n + 9 => exact z
theorem enc_inb {w : World} {m : MD} (ok : m.ok w) : InB (encP m).2 := by
  by_cases hz : (encP m).1 = 0
  · obtain ⟨js, hr, _, _, he⟩ := enc_ok hz
    have := (row_is hr).range
    rw [he]
    intro x hx
    rcases List.mem_cons.1 hx with rfl | hx
    · omega
    · obtain ⟨p, hp, hx⟩ := List.mem_flatMap.1 hx
      obtain ⟨j, _, rfl⟩ := List.mem_map.1 hp
      exact bytesP_range (part_inb ok.bytes j) x hx
  · rw [enc_bad hz]
    exact fun x hx => by simp at hx
theorem enc_len {m : MD} (hz : (encP m).1 = 0) : (encP m).2.length ≤ 33792 ∧ ∃ t, (encP m).2 = m.kind :: t := by
  obtain ⟨js, hr, hf, ho, he⟩ := enc_ok hz
  refine ⟨?_, _, he⟩
  have := ho.2.2
  rw [List.flatMap_cons, bytesP_1, List.length_append] at this
  rw [he, List.length_cons]
  simp only [List.length_cons, List.length_nil] at this
  omega
theorem own_small {m : MD} (hz : (encP m).1 = 0 ∨ fitsP m = true) {js : List Nat} (hr : rowL m.kind = some js) (h : SameM m (ownM m)) : m.name.size ≤ 64 ∧ m.lang.size ≤ 64 := by
  have hf : fitsP m = true := by
    rcases hz with hz | hf
    · exact (enc_ok hz).choose_spec.2.1
    · exact hf
  unfold ownM at h
  rw [hr] at h
  exact (row_is hr).small m rfl hf h.name h.lang
end Go.Proofs.YtdmjabfjkkjhbaaGreatDoor
