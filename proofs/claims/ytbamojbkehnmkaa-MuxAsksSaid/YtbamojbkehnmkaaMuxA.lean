/- Layer 26: where a channel stands: slices.IndexFunc and its kin at channels, find, Get; for all channels; no condition. -/
import Derived.Test.YtbamojbkehnmkaaEngI
import Derived.Test.YtbamojbkehnmkaaChF
namespace Go.Proofs.Ytbamojbkehnmkaa
set_option linter.all false
set_option maxRecDepth 100000
open Go.RowKit

theorem elemCh : ElemT Try.prog 32 45 12 (Try.prog.bytesOf 45) := elemT_of (z := .agg #[.int .u32 0, .int .u32 0, .int .u32 0, .int .u32 0, .int .u32 0, .int .u32 0, .bool false, .bool false, .bool false, .bool false, .int .i64 0, .bool false]) (by kernel_rfl) (by kernel_rfl) (by decide) (by decide)
theorem ch_len (c : CH) : c.cells.length = 12 := rfl
theorem ch_one (c : CH) : ∀ u ∈ c.cells, u.oneCell' = true := by
  intro u hu
  simp only [CH.cells, List.mem_cons, List.not_mem_nil, or_false] at hu
  rcases hu with h | h | h | h | h | h | h | h | h | h | h | h <;> subst h <;> rfl
/-- The first place. -/
def ixI {α : Type} (p : α → Bool) : List α → Int
  | [] => -1
  | a :: l => if p a then 0 else (if ixI p l < 0 then -1 else ixI p l + 1)
theorem ixI_lo {α : Type} (p : α → Bool) : ∀ l : List α, -1 ≤ ixI p l ∧ ixI p l < l.length
  | [] => by simp [ixI]
  | a :: l => by
    have := ixI_lo p l
    unfold ixI
    simp only [List.length_cons]
    split
    · omega
    · split <;> omega
theorem ixI_at {α : Type} {p : α → Bool} : ∀ {l : List α} {i : Nat} {x : α}, (∀ j y, j < i → l[j]? = some y → p y = false) → l[i]? = some x → p x = true → ixI p l = i
  | [], i, x, _, h, _ => by simp at h
  | a :: l, 0, x, _, h, hx => by
    simp at h; subst h
    simp [ixI, hx]
  | a :: l, i + 1, x, hj, h, hx => by
    have h0 := hj 0 a (by omega) rfl
    have ih := ixI_at (l := l) (i := i) (fun j y hlt hy => hj (j + 1) y (by omega) (by simpa using hy)) (by simpa using h) hx
    unfold ixI
    rw [h0, if_neg (by simp), ih, if_neg (by omega)]
    omega
theorem ixI_none {α : Type} {p : α → Bool} : ∀ {l : List α}, (∀ x ∈ l, p x = false) → ixI p l = -1
  | [], _ => rfl
  | a :: l, h => by
    have ih := ixI_none (l := l) (fun x hx => h x (by simp [hx]))
    unfold ixI
    rw [h a (by simp), if_neg (by simp), if_pos (by rw [ih]; decide)]
theorem ixI_get {α : Type} {p : α → Bool} : ∀ {l : List α}, 0 ≤ ixI p l → ∃ x, l[(ixI p l).toNat]? = some x ∧ p x = true ∧ ∀ j y, j < (ixI p l).toNat → l[j]? = some y → p y = false
  | [], h => by simp [ixI] at h
  | a :: l, h => by
    unfold ixI at h ⊢
    split
    · rename_i ha
      exact ⟨a, rfl, ha, fun j y hj => by simp at hj⟩
    · rename_i ha
      rw [if_neg ha] at h
      split at h
      · omega
      · rename_i hn
        rw [if_neg hn]
        obtain ⟨x, h1, h2, h3⟩ := ixI_get (p := p) (l := l) (by omega)
        refine ⟨x, ?_, h2, fun j y hj hy => ?_⟩
        · rw [show (ixI p l + 1).toNat = (ixI p l).toNat + 1 by omega]; simpa using h1
        · cases j with
          | zero => simp at hy; subst hy; simpa using ha
          | succ j => exact h3 j y (by omega) (by simpa using hy)
theorem ixI_any {α : Type} {p : α → Bool} {l : List α} : (ixI p l ≥ 0) ↔ l.any p = true := by
  induction l with
  | nil => simp [ixI]
  | cons a l ih =>
    unfold ixI
    rw [List.any_cons]
    split
    · rename_i h; simp [h]
    · rename_i h
      have h : p a = false := by simpa using h
      rw [h, Bool.false_or, ← ih]
      split <;> omega
theorem wrap_nextI {i n : Nat} (hn : n ≤ maxLen) (h : i < n := by assumption) : Value.int .i64 (IntKind.i64.wrap ((i : Int) + 1)) = (SV.c (.v (.int .i64 (i + 1 : Nat)))).den [] := by
  show Value.int .i64 _ = Value.int .i64 _
  rw [IntWalk.i64_in _ (by unfold maxLen at hn; omega)]
  rfl
/-- One block that is only read. -/
theorem Mem.rd1 (w : World) (g : Nat) {T : Nat} {cs : List SC} (hg : Blk w g T (dens [g] cs)) : Mem w [] [g] [.b false T cs] w :=
  Mem.start _ _ _ _ rfl (fun k h hk => by
    cases k with
    | zero => simp at hk; subst hk; exact hg
    | succ k => simp at hk) (fun k h x hk hw _ => by
    cases k with
    | zero => simp at hk; subst hk; cases hw
    | succ k => simp at hk) (fun i j hi hj x ei ej _ _ => by
    cases i with
    | succ i => simp at ei
    | zero =>
      cases j with
      | succ j => simp at ej
      | zero => rfl)

theorem index_find1 (p : CH → Bool) (a : Value) (l : List CH) (A : Option Addr) (cap n : Nat) (hl : l.length = n) (w : World) (hr : RdX CH.cells w A l) (hn : n ≤ maxLen) (hF : ∀ (x : CH) (w' : World), Only [] w w' → Calls Try.prog 44 #[x.val, a] w' fun e w2 => e = .returned (.bool (p x)) ∧ Only [] w' w2) : Calls Try.prog 43 #[.slice A n cap, .func (.func 44) #[] #[a]] w fun e w' => e = .returned (.int .i64 (ixI p l)) ∧ Only [] w w' := by
  subst hl
  refine Hs.enter Try.func43 [] [] [] [.c (.v (.slice A l.length cap)), .c (.v (.func (.func 44) #[] #[a]))] (Mem.start0 w) (by kernel_rfl) (by kernel_rfl) ?_
  have J : ∀ (d i : Nat), l.length - i = d → i ≤ l.length → (∀ j x, j < i → l[j]? = some x → p x = false) → ∀ (u : Nat → Value), Hs Try.prog 43 (fun e w' => e = .returned (.int .i64 (ixI p l)) ∧ Only [] w w') (Try.f43).ntmps w [] [] ⟨.no, loopAt Try.f43 0, pins [(0, .c (.v (.slice A l.length cap))), (1, .c (.v (.func (.func 44) #[] #[a]))), (7, .c (.v (.int .i64 l.length))), (8, .c (.v (.int .i64 (i : Nat))))] (.vals u), []⟩ := by
    intro d
    induction d with
    | zero =>
      intro i hd hi hj u
      refine Hs.run0 300 (fun _ => by kernel_rfl) ?_
      refine Hs.condP ((i : Int) < (l.length : Int)) (by kernel_rfl) (fun h => by omega) (fun h => ?_)
      have e : ixI p l = -1 := ixI_none fun x hx => by
        obtain ⟨j, hj1, hj2⟩ := List.mem_iff_getElem.1 hx
        exact hj j x (by omega) (by rw [List.getElem?_eq_getElem hj1, hj2])
      rw [e]
      refine Hs.run0 300 (fun _ => by kernel_rfl) ?_
      exact Hs.ret (v := .int .i64 (-1)) Try.func43 (by kernel_rfl) fun w' H => ⟨rfl, H.only⟩
    | succ d ih =>
      intro i hd hi hj u
      have hil : i < l.length := by omega
      obtain ⟨x, hx⟩ : ∃ x, l[i]? = some x := ⟨_, List.getElem?_eq_getElem hil⟩
      obtain ⟨ab, aoff, hA, _, _⟩ := hr (by omega)
      subst hA
      refine Hs.run0 300 (fun _ => by kernel_rfl) ?_
      refine Hs.condP ((i : Int) < (l.length : Int)) (by kernel_rfl) (fun h => ?_) (fun h => by omega)
      refine Hs.run0 300 (fun _ => by kernel_rfl) ?_
      refine Hs.idx (b := ab) (off := aoff) (c := cap) elemCh hil (by kernel_rfl) ?_
      refine Hs.ldx (E := 45) (b := ab) (off := aoff) (i := i) ch_len (.g x.sc) (by kernel_rfl) (fun w' H => hr.only H.only) hx (by kernel_rfl) (by kernel_rfl) (by kernel_rfl) (by kernel_rfl) ?_
      refine Hs.run0 300 (fun _ => by kernel_rfl) ?_
      refine Hs.callV (fun w' H => hF x w' H.only) (by kernel_rfl) ?_
      refine Hs.run0 300 (fun _ => by kernel_rfl) ?_
      refine Hs.cond (p x) (by kernel_rfl) (fun hp => ?_) (fun hp => ?_)
      · rw [ixI_at hj hx hp]
        refine Hs.run0 300 (fun _ => by kernel_rfl) ?_
        exact Hs.ret (v := .int .i64 (i : Nat)) Try.func43 (by kernel_rfl) fun w' H => ⟨rfl, H.only⟩
      refine Hs.run0 300 (fun _ => by kernel_rfl) ?_
      refine Hs.slot 8 (.c (.v (.int .i64 (i + 1 : Nat)))) rfl ((by kernel_rfl : _ = Value.int .i64 (IntKind.i64.wrap ((i : Int) + 1))).trans (wrap_nextI hn)) ?_
      refine Hs.loop (by kernel_rfl) ?_
      exact Hs.goto (loopAt Try.f43 0) [] [] [(0, .c (.v (.slice (some ⟨ab, aoff, none⟩) l.length cap))), (1, .c (.v (.func (.func 44) #[] #[a]))), (7, .c (.v (.int .i64 l.length))), (8, .c (.v (.int .i64 (i + 1 : Nat))))] (by kernel_rfl) (by decide) (by kernel_rfl) (by kernel_rfl) (fun _ => (by kernel_rfl)) (fun u => ih (i + 1) (by omega) (by omega) (fun j y hlt hy => by
        rcases Nat.lt_or_ge j i with h1 | h1
        · exact hj j y h1 hy
        · obtain rfl : j = i := by omega
          rw [hx] at hy; injection hy with hy; subst hy; exact hp) u)
  refine Hs.run0 300 (fun _ => by kernel_rfl) ?_
  refine Hs.loop (by kernel_rfl) ?_
  exact Hs.goto (loopAt Try.f43 0) [] [] [(0, .c (.v (.slice A l.length cap))), (1, .c (.v (.func (.func 44) #[] #[a]))), (7, .c (.v (.int .i64 l.length))), (8, .c (.v (.int .i64 (0 : Nat))))] (by kernel_rfl) (by decide) (by kernel_rfl) (by kernel_rfl) (fun _ => (by kernel_rfl)) (fun u => J _ 0 rfl (by omega) (fun j x h => by omega) u)

theorem index_open1 (p : CH → Bool) (a : Value) (l : List CH) (A : Option Addr) (cap n : Nat) (hl : l.length = n) (w : World) (hr : RdX CH.cells w A l) (hn : n ≤ maxLen) (hF : ∀ (x : CH) (w' : World), Only [] w w' → Calls Try.prog 49 #[x.val, a] w' fun e w2 => e = .returned (.bool (p x)) ∧ Only [] w' w2) : Calls Try.prog 43 #[.slice A n cap, .func (.func 49) #[] #[a]] w fun e w' => e = .returned (.int .i64 (ixI p l)) ∧ Only [] w w' := by
  subst hl
  refine Hs.enter Try.func43 [] [] [] [.c (.v (.slice A l.length cap)), .c (.v (.func (.func 49) #[] #[a]))] (Mem.start0 w) (by kernel_rfl) (by kernel_rfl) ?_
  have J : ∀ (d i : Nat), l.length - i = d → i ≤ l.length → (∀ j x, j < i → l[j]? = some x → p x = false) → ∀ (u : Nat → Value), Hs Try.prog 43 (fun e w' => e = .returned (.int .i64 (ixI p l)) ∧ Only [] w w') (Try.f43).ntmps w [] [] ⟨.no, loopAt Try.f43 0, pins [(0, .c (.v (.slice A l.length cap))), (1, .c (.v (.func (.func 49) #[] #[a]))), (7, .c (.v (.int .i64 l.length))), (8, .c (.v (.int .i64 (i : Nat))))] (.vals u), []⟩ := by
    intro d
    induction d with
    | zero =>
      intro i hd hi hj u
      refine Hs.run0 300 (fun _ => by kernel_rfl) ?_
      refine Hs.condP ((i : Int) < (l.length : Int)) (by kernel_rfl) (fun h => by omega) (fun h => ?_)
      have e : ixI p l = -1 := ixI_none fun x hx => by
        obtain ⟨j, hj1, hj2⟩ := List.mem_iff_getElem.1 hx
        exact hj j x (by omega) (by rw [List.getElem?_eq_getElem hj1, hj2])
      rw [e]
      refine Hs.run0 300 (fun _ => by kernel_rfl) ?_
      exact Hs.ret (v := .int .i64 (-1)) Try.func43 (by kernel_rfl) fun w' H => ⟨rfl, H.only⟩
    | succ d ih =>
      intro i hd hi hj u
      have hil : i < l.length := by omega
      obtain ⟨x, hx⟩ : ∃ x, l[i]? = some x := ⟨_, List.getElem?_eq_getElem hil⟩
      obtain ⟨ab, aoff, hA, _, _⟩ := hr (by omega)
      subst hA
      refine Hs.run0 300 (fun _ => by kernel_rfl) ?_
      refine Hs.condP ((i : Int) < (l.length : Int)) (by kernel_rfl) (fun h => ?_) (fun h => by omega)
      refine Hs.run0 300 (fun _ => by kernel_rfl) ?_
      refine Hs.idx (b := ab) (off := aoff) (c := cap) elemCh hil (by kernel_rfl) ?_
      refine Hs.ldx (E := 45) (b := ab) (off := aoff) (i := i) ch_len (.g x.sc) (by kernel_rfl) (fun w' H => hr.only H.only) hx (by kernel_rfl) (by kernel_rfl) (by kernel_rfl) (by kernel_rfl) ?_
      refine Hs.run0 300 (fun _ => by kernel_rfl) ?_
      refine Hs.callV (fun w' H => hF x w' H.only) (by kernel_rfl) ?_
      refine Hs.run0 300 (fun _ => by kernel_rfl) ?_
      refine Hs.cond (p x) (by kernel_rfl) (fun hp => ?_) (fun hp => ?_)
      · rw [ixI_at hj hx hp]
        refine Hs.run0 300 (fun _ => by kernel_rfl) ?_
        exact Hs.ret (v := .int .i64 (i : Nat)) Try.func43 (by kernel_rfl) fun w' H => ⟨rfl, H.only⟩
      refine Hs.run0 300 (fun _ => by kernel_rfl) ?_
      refine Hs.slot 8 (.c (.v (.int .i64 (i + 1 : Nat)))) rfl ((by kernel_rfl : _ = Value.int .i64 (IntKind.i64.wrap ((i : Int) + 1))).trans (wrap_nextI hn)) ?_
      refine Hs.loop (by kernel_rfl) ?_
      exact Hs.goto (loopAt Try.f43 0) [] [] [(0, .c (.v (.slice (some ⟨ab, aoff, none⟩) l.length cap))), (1, .c (.v (.func (.func 49) #[] #[a]))), (7, .c (.v (.int .i64 l.length))), (8, .c (.v (.int .i64 (i + 1 : Nat))))] (by kernel_rfl) (by decide) (by kernel_rfl) (by kernel_rfl) (fun _ => (by kernel_rfl)) (fun u => ih (i + 1) (by omega) (by omega) (fun j y hlt hy => by
        rcases Nat.lt_or_ge j i with h1 | h1
        · exact hj j y h1 hy
        · obtain rfl : j = i := by omega
          rw [hx] at hy; injection hy with hy; subst hy; exact hp) u)
  refine Hs.run0 300 (fun _ => by kernel_rfl) ?_
  refine Hs.loop (by kernel_rfl) ?_
  exact Hs.goto (loopAt Try.f43 0) [] [] [(0, .c (.v (.slice A l.length cap))), (1, .c (.v (.func (.func 49) #[] #[a]))), (7, .c (.v (.int .i64 l.length))), (8, .c (.v (.int .i64 (0 : Nat))))] (by kernel_rfl) (by decide) (by kernel_rfl) (by kernel_rfl) (fun _ => (by kernel_rfl)) (fun u => J _ 0 rfl (by omega) (fun j x h => by omega) u)

theorem index_open2 (p : CH → Bool) (a : Value) (l : List CH) (A : Option Addr) (cap n : Nat) (hl : l.length = n) (w : World) (hr : RdX CH.cells w A l) (hn : n ≤ maxLen) (hF : ∀ (x : CH) (w' : World), Only [] w w' → Calls Try.prog 51 #[x.val, a] w' fun e w2 => e = .returned (.bool (p x)) ∧ Only [] w' w2) : Calls Try.prog 43 #[.slice A n cap, .func (.func 51) #[] #[a]] w fun e w' => e = .returned (.int .i64 (ixI p l)) ∧ Only [] w w' := by
  subst hl
  refine Hs.enter Try.func43 [] [] [] [.c (.v (.slice A l.length cap)), .c (.v (.func (.func 51) #[] #[a]))] (Mem.start0 w) (by kernel_rfl) (by kernel_rfl) ?_
  have J : ∀ (d i : Nat), l.length - i = d → i ≤ l.length → (∀ j x, j < i → l[j]? = some x → p x = false) → ∀ (u : Nat → Value), Hs Try.prog 43 (fun e w' => e = .returned (.int .i64 (ixI p l)) ∧ Only [] w w') (Try.f43).ntmps w [] [] ⟨.no, loopAt Try.f43 0, pins [(0, .c (.v (.slice A l.length cap))), (1, .c (.v (.func (.func 51) #[] #[a]))), (7, .c (.v (.int .i64 l.length))), (8, .c (.v (.int .i64 (i : Nat))))] (.vals u), []⟩ := by
    intro d
    induction d with
    | zero =>
      intro i hd hi hj u
      refine Hs.run0 300 (fun _ => by kernel_rfl) ?_
      refine Hs.condP ((i : Int) < (l.length : Int)) (by kernel_rfl) (fun h => by omega) (fun h => ?_)
      have e : ixI p l = -1 := ixI_none fun x hx => by
        obtain ⟨j, hj1, hj2⟩ := List.mem_iff_getElem.1 hx
        exact hj j x (by omega) (by rw [List.getElem?_eq_getElem hj1, hj2])
      rw [e]
      refine Hs.run0 300 (fun _ => by kernel_rfl) ?_
      exact Hs.ret (v := .int .i64 (-1)) Try.func43 (by kernel_rfl) fun w' H => ⟨rfl, H.only⟩
    | succ d ih =>
      intro i hd hi hj u
      have hil : i < l.length := by omega
      obtain ⟨x, hx⟩ : ∃ x, l[i]? = some x := ⟨_, List.getElem?_eq_getElem hil⟩
      obtain ⟨ab, aoff, hA, _, _⟩ := hr (by omega)
      subst hA
      refine Hs.run0 300 (fun _ => by kernel_rfl) ?_
      refine Hs.condP ((i : Int) < (l.length : Int)) (by kernel_rfl) (fun h => ?_) (fun h => by omega)
      refine Hs.run0 300 (fun _ => by kernel_rfl) ?_
      refine Hs.idx (b := ab) (off := aoff) (c := cap) elemCh hil (by kernel_rfl) ?_
      refine Hs.ldx (E := 45) (b := ab) (off := aoff) (i := i) ch_len (.g x.sc) (by kernel_rfl) (fun w' H => hr.only H.only) hx (by kernel_rfl) (by kernel_rfl) (by kernel_rfl) (by kernel_rfl) ?_
      refine Hs.run0 300 (fun _ => by kernel_rfl) ?_
      refine Hs.callV (fun w' H => hF x w' H.only) (by kernel_rfl) ?_
      refine Hs.run0 300 (fun _ => by kernel_rfl) ?_
      refine Hs.cond (p x) (by kernel_rfl) (fun hp => ?_) (fun hp => ?_)
      · rw [ixI_at hj hx hp]
        refine Hs.run0 300 (fun _ => by kernel_rfl) ?_
        exact Hs.ret (v := .int .i64 (i : Nat)) Try.func43 (by kernel_rfl) fun w' H => ⟨rfl, H.only⟩
      refine Hs.run0 300 (fun _ => by kernel_rfl) ?_
      refine Hs.slot 8 (.c (.v (.int .i64 (i + 1 : Nat)))) rfl ((by kernel_rfl : _ = Value.int .i64 (IntKind.i64.wrap ((i : Int) + 1))).trans (wrap_nextI hn)) ?_
      refine Hs.loop (by kernel_rfl) ?_
      exact Hs.goto (loopAt Try.f43 0) [] [] [(0, .c (.v (.slice (some ⟨ab, aoff, none⟩) l.length cap))), (1, .c (.v (.func (.func 51) #[] #[a]))), (7, .c (.v (.int .i64 l.length))), (8, .c (.v (.int .i64 (i + 1 : Nat))))] (by kernel_rfl) (by decide) (by kernel_rfl) (by kernel_rfl) (fun _ => (by kernel_rfl)) (fun u => ih (i + 1) (by omega) (by omega) (fun j y hlt hy => by
        rcases Nat.lt_or_ge j i with h1 | h1
        · exact hj j y h1 hy
        · obtain rfl : j = i := by omega
          rw [hx] at hy; injection hy with hy; subst hy; exact hp) u)
  refine Hs.run0 300 (fun _ => by kernel_rfl) ?_
  refine Hs.loop (by kernel_rfl) ?_
  exact Hs.goto (loopAt Try.f43 0) [] [] [(0, .c (.v (.slice A l.length cap))), (1, .c (.v (.func (.func 51) #[] #[a]))), (7, .c (.v (.int .i64 l.length))), (8, .c (.v (.int .i64 (0 : Nat))))] (by kernel_rfl) (by decide) (by kernel_rfl) (by kernel_rfl) (fun _ => (by kernel_rfl)) (fun u => J _ 0 rfl (by omega) (fun j x h => by omega) u)

theorem index_free1 (p : CH → Bool) (l : List CH) (A : Option Addr) (cap n : Nat) (hl : l.length = n) (w : World) (hr : RdX CH.cells w A l) (hn : n ≤ maxLen) (hF : ∀ (x : CH) (w' : World), Only [] w w' → Calls Try.prog 29 #[x.val] w' fun e w2 => e = .returned (.bool (p x)) ∧ Only [] w' w2) : Calls Try.prog 43 #[.slice A n cap, .func (.func 29) #[] #[]] w fun e w' => e = .returned (.int .i64 (ixI p l)) ∧ Only [] w w' := by
  subst hl
  refine Hs.enter Try.func43 [] [] [] [.c (.v (.slice A l.length cap)), .c (.v (.func (.func 29) #[] #[]))] (Mem.start0 w) (by kernel_rfl) (by kernel_rfl) ?_
  have J : ∀ (d i : Nat), l.length - i = d → i ≤ l.length → (∀ j x, j < i → l[j]? = some x → p x = false) → ∀ (u : Nat → Value), Hs Try.prog 43 (fun e w' => e = .returned (.int .i64 (ixI p l)) ∧ Only [] w w') (Try.f43).ntmps w [] [] ⟨.no, loopAt Try.f43 0, pins [(0, .c (.v (.slice A l.length cap))), (1, .c (.v (.func (.func 29) #[] #[]))), (7, .c (.v (.int .i64 l.length))), (8, .c (.v (.int .i64 (i : Nat))))] (.vals u), []⟩ := by
    intro d
    induction d with
    | zero =>
      intro i hd hi hj u
      refine Hs.run0 300 (fun _ => by kernel_rfl) ?_
      refine Hs.condP ((i : Int) < (l.length : Int)) (by kernel_rfl) (fun h => by omega) (fun h => ?_)
      have e : ixI p l = -1 := ixI_none fun x hx => by
        obtain ⟨j, hj1, hj2⟩ := List.mem_iff_getElem.1 hx
        exact hj j x (by omega) (by rw [List.getElem?_eq_getElem hj1, hj2])
      rw [e]
      refine Hs.run0 300 (fun _ => by kernel_rfl) ?_
      exact Hs.ret (v := .int .i64 (-1)) Try.func43 (by kernel_rfl) fun w' H => ⟨rfl, H.only⟩
    | succ d ih =>
      intro i hd hi hj u
      have hil : i < l.length := by omega
      obtain ⟨x, hx⟩ : ∃ x, l[i]? = some x := ⟨_, List.getElem?_eq_getElem hil⟩
      obtain ⟨ab, aoff, hA, _, _⟩ := hr (by omega)
      subst hA
      refine Hs.run0 300 (fun _ => by kernel_rfl) ?_
      refine Hs.condP ((i : Int) < (l.length : Int)) (by kernel_rfl) (fun h => ?_) (fun h => by omega)
      refine Hs.run0 300 (fun _ => by kernel_rfl) ?_
      refine Hs.idx (b := ab) (off := aoff) (c := cap) elemCh hil (by kernel_rfl) ?_
      refine Hs.ldx (E := 45) (b := ab) (off := aoff) (i := i) ch_len (.g x.sc) (by kernel_rfl) (fun w' H => hr.only H.only) hx (by kernel_rfl) (by kernel_rfl) (by kernel_rfl) (by kernel_rfl) ?_
      refine Hs.run0 300 (fun _ => by kernel_rfl) ?_
      refine Hs.callV (fun w' H => hF x w' H.only) (by kernel_rfl) ?_
      refine Hs.run0 300 (fun _ => by kernel_rfl) ?_
      refine Hs.cond (p x) (by kernel_rfl) (fun hp => ?_) (fun hp => ?_)
      · rw [ixI_at hj hx hp]
        refine Hs.run0 300 (fun _ => by kernel_rfl) ?_
        exact Hs.ret (v := .int .i64 (i : Nat)) Try.func43 (by kernel_rfl) fun w' H => ⟨rfl, H.only⟩
      refine Hs.run0 300 (fun _ => by kernel_rfl) ?_
      refine Hs.slot 8 (.c (.v (.int .i64 (i + 1 : Nat)))) rfl ((by kernel_rfl : _ = Value.int .i64 (IntKind.i64.wrap ((i : Int) + 1))).trans (wrap_nextI hn)) ?_
      refine Hs.loop (by kernel_rfl) ?_
      exact Hs.goto (loopAt Try.f43 0) [] [] [(0, .c (.v (.slice (some ⟨ab, aoff, none⟩) l.length cap))), (1, .c (.v (.func (.func 29) #[] #[]))), (7, .c (.v (.int .i64 l.length))), (8, .c (.v (.int .i64 (i + 1 : Nat))))] (by kernel_rfl) (by decide) (by kernel_rfl) (by kernel_rfl) (fun _ => (by kernel_rfl)) (fun u => ih (i + 1) (by omega) (by omega) (fun j y hlt hy => by
        rcases Nat.lt_or_ge j i with h1 | h1
        · exact hj j y h1 hy
        · obtain rfl : j = i := by omega
          rw [hx] at hy; injection hy with hy; subst hy; exact hp) u)
  refine Hs.run0 300 (fun _ => by kernel_rfl) ?_
  refine Hs.loop (by kernel_rfl) ?_
  exact Hs.goto (loopAt Try.f43 0) [] [] [(0, .c (.v (.slice A l.length cap))), (1, .c (.v (.func (.func 29) #[] #[]))), (7, .c (.v (.int .i64 l.length))), (8, .c (.v (.int .i64 (0 : Nat))))] (by kernel_rfl) (by decide) (by kernel_rfl) (by kernel_rfl) (fun _ => (by kernel_rfl)) (fun u => J _ 0 rfl (by omega) (fun j x h => by omega) u)

theorem find1_any (c : CH) (k : Int) (g : Nat) (w : World) (hg : Blk w g 23 [.int .u32 k]) : Calls Try.prog 44 #[c.val, .pointer (some ⟨g, 0, none⟩)] w fun e w' => e = .returned (.bool (c.loc == k)) ∧ Only [] w w' := by
  refine Hs.enter Try.func44 [] [g] [.b false 23 [.v (.int .u32 k)]] [.g c.sc, .c (.p 0 0)] (Mem.rd1 w g hg) (by kernel_rfl) (by kernel_rfl) ?_
  refine Hs.run1 300 (fun _ => by kernel_rfl) fun b0 => ?_
  exact Hs.ret (v := .bool (c.loc == k)) Try.func44 (by kernel_rfl) fun w' H => ⟨rfl, H.only⟩
/-- Channels, as they lie. -/
structure MX where
  A : Option Addr
  cap : Nat
  l : List CH
  lim : Int
  dead : Bool
def MX.sc (x : MX) : List SC := [.v (.slice x.A x.l.length x.cap), .v (.int .u32 x.lim), .v (.bool x.dead)]
def MX.val (x : MX) : Value := .agg #[.slice x.A x.l.length x.cap, .int .u32 x.lim, .bool x.dead]
structure MX.ok (w : World) (x : MX) : Prop where
  rd : RdX CH.cells w x.A x.l
  len : x.l.length ≤ x.cap
  cap : x.cap ≤ maxLen
  chs : ∀ c ∈ x.l, c.ok
  lim : U32 x.lim
theorem MX.ok.only {w w' : World} {x : MX} (h : x.ok w) (O : Only [] w w') : x.ok w' := ⟨h.rd.only O, h.len, h.cap, h.chs, h.lim⟩
def locP (k : Int) (c : CH) : Bool := c.loc == k
theorem find_any (x : MX) (k : Int) (w : World) (hx : x.ok w) : Calls Try.prog 27 #[x.val, .int .u32 k] w fun e w' => e = .returned (.int .i64 (ixI (locP k) x.l)) ∧ Only [] w w' := by
  refine Hs.enter Try.func27 [] [] [] [.g x.sc, .c (.v (.int .u32 k))] (Mem.start0 w) (by kernel_rfl) (by kernel_rfl) ?_
  refine Hs.run2 300 (fun _ => by kernel_rfl) fun b0 b1 => ?_
  refine Hs.callV (fun w' H => index_find1 (locP k) (.pointer (some ⟨b1, 0, none⟩)) x.l x.A x.cap _ rfl w' (hx.rd.only H.only) (Nat.le_trans hx.len hx.cap) fun c w2 O2 => find1_any c k b1 w2 (Blk.only (H.at 1 (wr := true) (cs := [.v (.int .u32 k)]) (by kernel_rfl)) O2 (by simp))) (by kernel_rfl) ?_
  refine Hs.run0 300 (fun _ => by kernel_rfl) ?_
  exact Hs.ret (v := .int .i64 (ixI (locP k) x.l)) Try.func27 (by kernel_rfl) fun w' H => ⟨rfl, H.only⟩
/-- Get: the channel, or an empty one. -/
def CH.zero : CH := ⟨0, 0, 0, 0, 0, 0, false, false, false, false, 0, false⟩
def getL (k : Int) (l : List CH) : CH × Bool := match l[(ixI (locP k) l).toNat]? with
  | some c => if ixI (locP k) l < 0 then (CH.zero, false) else (c, true)
  | none => (CH.zero, false)
theorem muxGet_any (x : MX) (k : Int) (w : World) (hx : x.ok w) : Calls Try.prog 10 #[x.val, .int .u32 k] w fun e w' => e = .returned (.tuple #[(getL k x.l).1.val, .bool (getL k x.l).2]) ∧ Only [] w w' := by
  obtain ⟨r, hr⟩ : ∃ r, r = getL k x.l := ⟨_, rfl⟩
  rw [← hr]
  refine Hs.enter Try.func10 [] [] [] [.g x.sc, .c (.v (.int .u32 k))] (Mem.start0 w) (by kernel_rfl) (by kernel_rfl) ?_
  refine Hs.run2 300 (fun _ => by kernel_rfl) fun b0 b1 => ?_
  refine Hs.callV (fun w' H => find_any x k w' (hx.only H.only)) (by kernel_rfl) ?_
  refine Hs.run0 300 (fun _ => by kernel_rfl) ?_
  refine Hs.condP (ixI (locP k) x.l < 0) (by kernel_rfl) (fun h => ?_) (fun h => ?_)
  · have e : r = (CH.zero, false) := by
      rw [hr]; unfold getL
      split
      · rw [if_pos h]
      · rfl
    subst e
    refine Hs.run0 300 (fun _ => by kernel_rfl) ?_
    exact Hs.ret (v := .tuple #[CH.zero.val, .bool false]) Try.func10 (by kernel_rfl) fun w' H => ⟨rfl, H.only⟩
  obtain ⟨c, h1, _⟩ := ixI_get (p := locP k) (l := x.l) (by omega)
  have e : r = (c, true) := by
    rw [hr]; unfold getL; rw [h1]
    show (if _ then _ else _) = _
    rw [if_neg h]
  subst e
  clear hr
  have hlt := (List.getElem?_eq_some_iff.1 h1).1
  obtain ⟨i, hi⟩ : ∃ i : Nat, ixI (locP k) x.l = i := ⟨(ixI (locP k) x.l).toNat, by omega⟩
  rw [hi, Int.toNat_natCast] at h1
  rw [hi, Int.toNat_natCast] at hlt
  obtain ⟨A, cap, l, lim, dead⟩ := x
  have hrd := hx.rd
  dsimp only at hrd hlt h1 hi
  obtain ⟨ab, aoff, hA, _, _⟩ := hrd (by omega)
  subst hA
  refine Hs.run0 300 (fun _ => by kernel_rfl) ?_
  refine Hs.slot 15 (.c (.v (.int .i64 i))) rfl ((by kernel_rfl : _ = Value.int .i64 (ixI (locP k) l)).trans (congrArg (Value.int .i64) hi)) ?_
  refine Hs.idx (b := ab) (off := aoff) (c := cap) elemCh hlt (by kernel_rfl) ?_
  refine Hs.ldx (E := 45) (b := ab) (off := aoff) (i := i) ch_len (.g c.sc) (by kernel_rfl) (fun w' H => hrd.only H.only) h1 (by kernel_rfl) (by kernel_rfl) (by kernel_rfl) (by kernel_rfl) ?_
  refine Hs.run0 300 (fun _ => by kernel_rfl) ?_
  exact Hs.ret (v := .tuple #[c.val, .bool true]) Try.func10 (by kernel_rfl) fun w' H => ⟨rfl, H.only⟩
end Go.Proofs.Ytbamojbkehnmkaa
