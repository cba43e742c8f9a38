/- The document's answer for layer 4: what Decode hands on; no condition. -/
import Derived.Test.YtmpeidliacbelaaGreatDoorReqSC
import Derived.Test.YtmpeidliacbelaaGreatDoorReqRA
import Derived.Test.YtmpeidliacbelaaGreatDoorRefS
namespace Go.Proofs.YtmpeidliacbelaaGreatDoor
set_option linter.all false
open Go.RowKit

/-- What the document's Decode hands on. -/
def RefDecPost (w : World) (s : ByteArray) (l : List Int) : Ending → World → Prop := fun e w' => Only [] w w' ∧ ∃ (m : RQ) (E : Int), e = .returned (.tuple #[m.val, .int .i64 E]) ∧ m.ok w' ∧ DecR s l m E
theorem far_req {w : World} {q : Nat} {m : RQ} {A : Option Addr} {l : List Int} (K : Blk w q 28 m.cells) (h : RdG (.int .u8) w A l) (h0 : 0 < l.length) (a : Addr) (ha : A = some a) : a.block ≠ q := by
  obtain ⟨b, off, e, hb, hc⟩ := h h0
  rw [e] at ha
  injection ha with ha
  subst ha
  intro hbq
  dsimp only at hbq
  subst hbq
  have hx : l[0]? = some (l[0]'h0) := List.getElem?_eq_getElem h0
  have := hc 0 _ hx
  rw [Nat.add_zero, K.cell off] at this
  have hm := List.mem_of_getElem? this
  simp [RQ.cells] at hm
theorem RQ.ok.onlyN {w w' : World} {q : Nat} {m : RQ} (h : m.ok w) (hb : Only [q] w w') (hn : ∀ a, m.mA = some a → 0 < m.modes.length → a.block ≠ q) : m.ok w' :=
  { h with modes := RdG.onlyL h.modes hb (fun a ha h0 => by have := hn a ha h0; simp; omega) }
/-- The kind that is found so far. -/
def kdAt (k i : Nat) : Int := if k < i then (k : Int) else 0
theorem kdAt_hit (k : Nat) : kdAt k (k + 1) = k := if_pos (by omega)
theorem kdAt_miss {k i : Nat} (h : i ≠ k) : kdAt k (i + 1) = kdAt k i := by
  unfold kdAt
  by_cases h1 : k < i
  · rw [if_pos h1, if_pos (by omega)]
  · rw [if_neg h1, if_neg (by omega)]
def kcells (x : Int) : List Value := [.int .i64 x, .string ⟨#[]⟩, .string ⟨#[]⟩, .string ⟨#[]⟩, .int .u32 0, .int .u32 0, .int .u32 0, .int .u32 0, .slice none 0 0, .bool false, .int .u32 0]
theorem kcells_set (x y : Int) : (kcells x).set 0 (.int .i64 y) = kcells y := rfl
theorem put_ok2 {w : World} {fs : List FD} (k : Nat) (h1 : 1 ≤ k) (h2 : k ≤ 10) (hk : fs.map (fun f => f.pf.kind) = rkinds k) (hm : ∀ f ∈ fs, FD.ok w f) (hn : ∀ f ∈ fs, U32 f.n ∧ InB f.text) : (putR (firstR k) k fs).ok w := by
  have z0 : (firstR k).ok w := firstR_ok w k
  have hs : ∀ f ∈ fs, (strOfNums f.text).size ≤ maxLen := fun f hf => by rw [str_size]; exact Nat.le_trans (hm f hf).tle (hm f hf).tmax
  have z : U32 0 := ⟨by decide, by decide⟩
  rcases k10 h1 h2 with rfl | rfl | rfl | rfl | rfl | rfl | rfl | rfl | rfl | rfl
  · obtain ⟨x1, x2, x3, x4, x5, x6, rfl, _⟩ := ks6 hk
    exact { z0 with text := hs x1 (by simp), nums := ⟨(hn x2 (by simp)).1, (hn x3 (by simp)).1, (hn x4 (by simp)).1, (hn x5 (by simp)).1, z⟩, modes := (hm x6 (by simp)).text, mle := (hm x6 (by simp)).tle, mmax := (hm x6 (by simp)).tmax, bytes := (hn x6 (by simp)).2 }
  · obtain ⟨x1, x2, rfl, _⟩ := ks2 hk
    exact { z0 with text := hs x1 (by simp), value := hs x2 (by simp) }
  · exact z0
  · obtain ⟨x1, rfl, _⟩ := ks1 hk
    exact { z0 with text := hs x1 (by simp) }
  · obtain ⟨x1, rfl, _⟩ := ks1 hk
    exact { z0 with text := hs x1 (by simp) }
  · obtain ⟨x1, x2, x3, x4, rfl, _⟩ := ks4 hk
    exact { z0 with nums := ⟨(hn x1 (by simp)).1, (hn x2 (by simp)).1, (hn x3 (by simp)).1, (hn x4 (by simp)).1, z⟩ }
  · obtain ⟨x1, rfl, _⟩ := ks1 hk
    exact { z0 with }
  · obtain ⟨x1, rfl, _⟩ := ks1 hk
    exact { z0 with text := hs x1 (by simp) }
  · obtain ⟨x1, rfl, _⟩ := ks1 hk
    exact { z0 with nums := ⟨z, z, z, z, (hn x1 (by simp)).1⟩ }
  · obtain ⟨x1, x2, x3, x4, rfl, _⟩ := ks4 hk
    exact { z0 with text := hs x1 (by simp), value := hs x3 (by simp), lang := hs x4 (by simp) }
theorem str_eq {x y : ByteArray} (h : x = y) : (x.toList == y.toList) = true := by rw [h]; simp
end Go.Proofs.YtmpeidliacbelaaGreatDoor
