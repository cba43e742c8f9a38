/- The walks of package ring: what each method returns and how the ring stands behind it; for every ring, no condition. -/
import Derived.Test.YtamnnggijmmogaaFrame
import Derived.Test.YtamnnggijmmogaaMem
namespace Go.Proofs.Ytamnnggijmmogaa
set_option linter.all false
open Go.RowKit

/-- A ring lies in block g, its places in block bb. -/
structure RingS (w : World) (g bb size : Nat) (zs : List Int) (first n : Nat) : Prop where
  ring : Blk w g 96 [.slice (some ⟨bb, 0, none⟩) size size, .int .i64 first, .int .i64 n]
  row : Blk w bb 5 (u8s zs)
  len : zs.length = size
  pos : 1 ≤ size
  big : size ≤ 65536
  fst : first < size
  cnt : n ≤ size

theorem RingS.ne {w : World} {g bb size : Nat} {zs : List Int} {first n : Nat} (h : RingS w g bb size zs first n) : g ≠ bb := Blk.ne h.ring h.row (by decide)
theorem RingS.only {w w' : World} {L : List Nat} {g bb size : Nat} {zs : List Int} {first n : Nat} (h : RingS w g bb size zs first n) (hb : Only L w w') (h1 : g ∉ L) (h2 : bb ∉ L) : RingS w' g bb size zs first n :=
  ⟨h.ring.only hb h1, h.row.only hb h2, h.len, h.pos, h.big, h.fst, h.cnt⟩

/-- Where the byte of a number stands. -/
def idx (size first i : Nat) : Nat := if first + i < size then first + i else first + i - size
theorem idx_mod (size first i : Nat) (hf : first < size) (hi : i ≤ size) : ((first : Int) + (i : Int)) % (size : Int) = (idx size first i : Int) := by
  unfold idx; split
  · exact Int.emod_eq_of_lt (by omega) (by omega)
  · have : ((first : Int) + (i : Int)) = ((first + i - size : Nat) : Int) + (size : Int) := by omega
    rw [this, Int.add_emod_right]; exact Int.emod_eq_of_lt (by omega) (by omega)
theorem idx_lt (size first i : Nat) (hf : first < size) (hi : i ≤ size) : idx size first i < size := by unfold idx; split <;> omega

section
variable (g bb size : Nat) (zs : List Int) (first n : Nat) (w : World)
theorem len_any (h : RingS w g bb size zs first n) : Calls Try.prog 37 #[.pointer (some ⟨g, 0, none⟩)] w fun e w' => e = .returned (.int .i64 n) ∧ w = w' := by
  have c2 := h.ring.cell 2
  go_enter Try.func37, Try.ntmps37
  go_wp2
  go_ret
  exact ⟨rfl, rfl⟩
theorem cap_any (h : RingS w g bb size zs first n) : Calls Try.prog 42 #[.pointer (some ⟨g, 0, none⟩)] w fun e w' => e = .returned (.int .i64 size) ∧ w = w' := by
  have c0 := h.ring.cell 0
  go_enter Try.func42, Try.ntmps42
  go_wp2
  go_ret
  exact ⟨rfl, rfl⟩
theorem room_any (h : RingS w g bb size zs first n) : Calls Try.prog 43 #[.pointer (some ⟨g, 0, none⟩)] w fun e w' => e = .returned (.int .i64 (size - n : Int)) ∧ w = w' := by
  have c0 := h.ring.cell 0
  have c2 := h.ring.cell 2
  have hb := h.big
  have hc := h.cnt
  go_enter Try.func43, Try.ntmps43
  go_wp2_with (first | (go_at_call 42; go_call (cap_any g bb size zs first n w h) as e w' ⟨rfl, rfl⟩) | (go_at_call 37; go_call (len_any g bb size zs first n w h) as e w' ⟨rfl, rfl⟩))
  go_ret
  exact ⟨rfl, rfl⟩
theorem place_any (i : Nat) (h : RingS w g bb size zs first n) (hi : i ≤ size) : Calls Try.prog 50 #[.pointer (some ⟨g, 0, none⟩), .int .i64 i] w fun e w' => e = .returned (.int .i64 (idx size first i)) ∧ Only [] w w' := by
  have c0 := h.ring.cell 0
  have c1 := h.ring.cell 1
  have hm := idx_mod size first i h.fst hi
  have hb := h.big
  have hc := h.cnt
  have hf := h.fst
  have hp := h.pos
  have hz : ((size : Int) == 0) = false := beq_eq_false_iff_ne.2 (by omega)
  go_enter Try.func50, Try.ntmps50
  go_wp2
  go_quiet (fail)
  go_wp2
  go_ret
  exact ⟨ret_int hm, (Only.refl _ _).drewN _⟩

/-- How many bytes a wish for m gets. -/
def some_ (n : Nat) (m : Int) : Nat := (max 0 (min m n)).toNat
theorem some_any (m : Int) (h : RingS w g bb size zs first n) : Calls Try.prog 57 #[.pointer (some ⟨g, 0, none⟩), .int .i64 m] w fun e w' => e = .returned (.int .i64 (some_ n m)) ∧ w = w' := by
  have hb := h.big
  have hc := h.cnt
  go_enter Try.func57, Try.ntmps57
  go_wp2_with fail
  go_call (len_any g bb size zs first n w h) as e w' ⟨rfl, rfl⟩
  go_wp2_with fail
  all_goals (go_ret; exact ⟨ret_int (by unfold some_; omega), rfl⟩)
theorem some_le (m : Int) : some_ n m ≤ n := by unfold some_; omega

/-- The ring behind a Drop. -/
def dropF (size first k : Nat) : Nat := if 0 < k then idx size first k else first
theorem drop_any (m : Int) (h : RingS w g bb size zs first n) : Calls Try.prog 51 #[.pointer (some ⟨g, 0, none⟩), .int .i64 m] w fun e w' =>
    e = .returned (.int .i64 (some_ n m)) ∧ RingS w' g bb size zs (dropF size first (some_ n m)) (n - some_ n m) ∧ Only [g] w w' := by
  have hk := some_le n m
  obtain ⟨k, hk'⟩ : ∃ k, some_ n m = k := ⟨_, rfl⟩
  have hs := some_any g bb size zs first n w m h
  rw [hk'] at hs hk ⊢
  clear hk'
  have hb := h.big
  have hc := h.cnt
  have hf := h.fst
  have hp := h.pos
  have hgb := h.ne
  by_cases h0 : 0 < k
  · have hd : dropF size first k = idx size first k := by unfold dropF; rw [if_pos h0]
    have hl := idx_lt size first k hf (by omega)
    rw [hd]; clear hd
    go_enter Try.func51, Try.ntmps51
    go_wp2_with fail
    go_call hs as e w' ⟨rfl, rfl⟩
    clear hs
    go_wp2_with fail
    go_call (place_any g bb size zs first n w k h (by omega)) as e w1 ⟨rfl, b1⟩
    have h1 := h.only b1 (by simp) (by simp)
    have c1 := h1.ring.cell 1
    have c2 := h1.ring.cell 2
    have f1 := h1.ring.frozen 1
    have f2 := h1.ring.frozen 2
    go_wp2_with fail
    go_ret
    refine ⟨rfl, ⟨?_, ?_, h.len, hp, hb, hl, by omega⟩, ?_⟩
    · have := (h1.ring.set_ 1 (.int .i64 (idx size first k))).set_ 2 (.int .i64 (n - k))
      have e : ((n - k : Nat) : Int) = n - k := by omega
      rw [e]
      simpa using this
    · exact (h1.row.far (p := ⟨g, 1, none⟩) (Ne.symm hgb) _).far (p := ⟨g, 2, none⟩) (Ne.symm hgb) _
    · exact ((b1.mono (by simp)).setCell (p := ⟨g, 1, none⟩) (.inl (by simp)) _).setCell (p := ⟨g, 2, none⟩) (.inl (by simp)) _
  · obtain rfl : k = 0 := by omega
    have hd : dropF size first 0 = first := rfl
    rw [hd]; clear hd
    go_enter Try.func51, Try.ntmps51
    go_wp2_with fail
    go_call hs as e w' ⟨rfl, rfl⟩
    go_wp2_with fail
    go_ret
    exact ⟨rfl, by simpa using h, Only.refl _ _⟩
end
end Go.Proofs.Ytamnnggijmmogaa
