/- The walks of package ring, continued: New, Read, Clear, Write; for every ring, no condition. -/
import Derived.Test.YtamnnggijmmogaaRingC
namespace Go.Proofs.Ytamnnggijmmogaa
set_option linter.all false
open Go.RowKit

theorem Byt.only {w w' : World} {base : Nat} {v : Value} {l : List Int} {L : List Nat} (h : Byt w base v l) (hb : Only L w w') (hL : ∀ x ∈ L, x < base) : Byt w' base v l := by
  rcases h with h | ⟨b, hv, hB, hk⟩
  · exact .inl h
  · exact .inr ⟨b, hv, hB, hk.only hb (fun hm => by have := hL b hm; omega)⟩
theorem Byt.mono {w : World} {base base' : Nat} {v : Value} {l : List Int} (h : Byt w base v l) (hB : base' ≤ base) : Byt w base' v l := by
  rcases h with h | ⟨b, hv, hb, hk⟩
  · exact .inl h
  · exact .inr ⟨b, hv, by omega, hk⟩
theorem Byt.len {w : World} {base : Nat} {v : Value} {l : List Int} (h : Byt w base v l) : ∃ A, v = .slice A l.length l.length := by
  rcases h with ⟨rfl, hv⟩ | ⟨b, hv, _, _⟩
  · exact ⟨none, hv⟩
  · exact ⟨_, hv⟩

/-- A slice of bytes that is read: its cells lie in a block that is none of 'no'. -/
def Src (w : World) (no : List Nat) (A : Option Addr) (l : List Int) : Prop :=
  0 < l.length → ∃ b off, A = some ⟨b, off, none⟩ ∧ b < w.heap.size ∧ b ∉ no ∧ ∀ i v, l[i]? = some v → w.cell? ⟨b, off + i, none⟩ = some (.int .u8 v)

def RingPost (w : World) (g bb size : Nat) (zs : List Int) (first n : Nat) (l : List Int) (e : Ending) (w' : World) : Prop :=
  ∃ v, e = .returned v ∧ Byt w' w.heap.size v l ∧ RingS w' g bb size zs first n ∧ Only [g] w w'
section
variable (g bb size : Nat) (zs : List Int) (first n : Nat) (w : World)
theorem read_any (m : Int) (h : RingS w g bb size zs first n) : Calls Try.prog 35 #[.pointer (some ⟨g, 0, none⟩), .int .i64 m] w
    (RingPost w g bb size zs (dropF size first (some_ n m)) (n - some_ n m) (cont zs first (some_ n m))) := by
  have hg := h.ring.lt
  go_enter Try.func35, Try.ntmps35
  go_wp2_with fail
  go_call (peek_any g bb size zs first n w m h) as e w1 ⟨v, rfl, hv, O1⟩
  have h1 := h.only O1 (by simp) (by simp)
  go_wp2_with fail
  go_call (drop_any g bb size zs first n w1 m h1) as e w2 ⟨rfl, h2, O2⟩
  go_wp2_with fail
  go_ret
  exact ⟨v, rfl, hv.only O2 (by simpa using hg), h2, (O1.mono (by simp)).trans O2 (by simp)⟩

theorem clear_any (h : RingS w g bb size zs first n) : Calls Try.prog 52 #[.pointer (some ⟨g, 0, none⟩)] w fun e w' => e = .returned (.tuple #[]) ∧ RingS w' g bb size zs (dropF size first n) 0 ∧ Only [g] w w' := by
  have hs : some_ n n = n := by unfold some_; omega
  have hd := drop_any g bb size zs first n w n h
  rw [hs] at hd
  have hz : n - n = 0 := by omega
  rw [hz] at hd
  clear hs hz
  go_enter Try.func52, Try.ntmps52
  go_wp2_with fail
  go_call (len_any g bb size zs first n w h) as e w' ⟨rfl, rfl⟩
  go_wp2_with fail
  go_call hd as e w2 ⟨rfl, h2, O2⟩
  clear hd
  go_wp2_with fail
  go_end0
  exact ⟨rfl, h2, O2⟩
end

def NewPost (w : World) (size : Int) (e : Ending) (w' : World) : Prop :=
  (size < 1 ∨ 65536 < size) ∧ e = .returned (.tuple #[.pointer none, .int .i64 2]) ∧ w' = w ∨
  (1 ≤ size ∧ size ≤ 65536) ∧ e = .returned (.tuple #[.pointer (some ⟨w.heap.size + 1, 0, none⟩), .int .i64 0]) ∧ RingS w' (w.heap.size + 1) w.heap.size size.toNat (List.replicate size.toNat 0) 0 0 ∧ Only [] w w'
theorem new_any (size : Int) (w : World) : Calls Try.prog 33 #[.int .i64 size] w (NewPost w size) := by
  by_cases h1 : size < 1
  · go_enter Try.func33, Try.ntmps33
    go_wp2
    go_ret2
    exact .inl ⟨.inl h1, rfl, rfl⟩
  by_cases h2 : 65536 < size
  · go_enter Try.func33, Try.ntmps33
    go_wp2
    go_ret2
    exact .inl ⟨.inr h2, rfl, rfl⟩
  · obtain ⟨k, rfl⟩ := Int.eq_ofNat_of_zero_le (show 0 ≤ size by omega)
    have hmk := make_zer k (by omega)
    go_enter Try.func33, Try.ntmps33
    go_wp2
    go_ret2
    have hz := (blk_zer k w).alloc (.cells #[.slice (some ⟨w.heap.size, 0, none⟩) k k, .int .i64 0, .int .i64 0] 96)
    refine .inr ⟨by omega, rfl, ⟨?_, ?_, by simp, by omega, by omega, by omega, by omega⟩, by repeat (first | exact Only.refl _ _ | apply Only.alloc)⟩
    · have := Blk.new (w.alloc (.cells (zer k) 5)) 96 [.slice (some ⟨w.heap.size, 0, none⟩) k k, .int .i64 0, .int .i64 0]
      simpa using this
    · simpa using hz
end Go.Proofs.Ytamnnggijmmogaa
