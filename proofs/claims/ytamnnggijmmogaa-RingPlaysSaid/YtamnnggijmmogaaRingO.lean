/- The walks of layer 5's reference; for every ring, no condition. -/
import Derived.Test.YtamnnggijmmogaaRingM
import Derived.Test.YtamnnggijmmogaaApp3
import Derived.Deep.DeepMust
namespace Go.Proofs.Ytamnnggijmmogaa
set_option linter.all false
open Go.RowKit

/-- A ring of the reference lies in block g; its bytes are v. -/
structure RefV (w : World) (g size base : Nat) (v : Value) (c : List Int) : Prop where
  ring : Blk w g 88 [.int .i64 size, v]
  own : OwnB w base v c
  le : c.length ≤ size
  big : size ≤ 65536
  low : g < base
theorem RefV.only {w w' : World} {g size base : Nat} {v : Value} {c : List Int} {L : List Nat} (h : RefV w g size base v c) (hb : Only L w w') (h1 : g ∉ L) (h2 : ∀ x ∈ L, some x ≠ v.ownBlock) : RefV w' g size base v c :=
  ⟨h.ring.only hb h1, h.own.far hb h2, h.le, h.big, h.low⟩
theorem RefV.baseLe {w : World} {g size base : Nat} {v : Value} {c : List Int} (h : RefV w g size base v c) (hb : base ≤ w.heap.size) : base ≤ w.heap.size := hb

/-- What a step of the reference leaves. -/
def Moved (w w' : World) (g : Nat) (v v' : Value) : Prop := Only (g :: v.ownBlock.toList) w w' ∧ (v'.ownBlock = v.ownBlock ∨ ∀ x, v'.ownBlock = some x → w.heap.size ≤ x)

theorem refNew_any (size : Nat) (w : World) (h1 : 1 ≤ size) (h2 : size ≤ 65536) : Calls Try.prog 39 #[.int .i64 size] w fun e w' =>
    e = .returned (.tuple #[.pointer (some ⟨w.heap.size, 0, none⟩), .int .i64 0]) ∧ RefV w' w.heap.size size (w.heap.size + 1) (.slice none 0 0) [] ∧ Only [] w w' ∧ w'.heap.size = w.heap.size + 1 := by
  go_enter Try.func39, Try.ntmps39
  go_wp2
  go_ret2
  exact ⟨rfl, ⟨Blk.new w _ _, ownB_nil _ _, by simp, h2, by omega⟩, (Only.refl _ _).alloc _, by simp⟩
theorem refNew_bad (size : Int) (w : World) (h : size < 1 ∨ 65536 < size) : Calls Try.prog 39 #[.int .i64 size] w fun e w' => e = .returned (.tuple #[.pointer none, .int .i64 2]) ∧ w = w' := by
  by_cases h1 : size < 1
  · go_enter Try.func39, Try.ntmps39
    go_wp2
    go_ret2
    exact ⟨rfl, rfl⟩
  · have h2 : 65536 < size := by omega
    go_enter Try.func39, Try.ntmps39
    go_wp2
    go_ret2
    exact ⟨rfl, rfl⟩

section
variable (g size base : Nat) (v : Value) (c : List Int) (w : World)
def RPeek (w : World) (l : List Int) (e : Ending) (w' : World) : Prop := ∃ r, e = .returned r ∧ OwnB w' w.heap.size r l ∧ Only [] w w'
set_option maxRecDepth 100000 in
set_option maxHeartbeats 1600000 in
theorem refPeek_any (n : Int) (h : RefV w g size base v c) : Calls Try.prog 55 #[.pointer (some ⟨g, 0, none⟩), .int .i64 n] w (RPeek w (c.take (some_ c.length n))) := by
  have hle := h.le
  have hbig := h.big
  have hgl := h.ring.lt
  have hsl := some_le c.length n
  obtain ⟨s, hs⟩ : ∃ s, s = some_ c.length n := ⟨_, rfl⟩
  have hsn : ∀ k : Nat, k ≤ s → ((k : Int) < n ∧ k < c.length ↔ k < s) := by intro k hk; rw [hs] at hk ⊢; unfold some_ at *; omega
  rw [← hs] at hsl ⊢
  clear hs
  obtain ⟨A, cap, rfl, G, hc1, hc2, _⟩ := h.own.rd
  obtain ⟨L, hL⟩ : ∃ L, L = c.length := ⟨_, rfl⟩
  have K := h.ring
  rw [← hL] at hle hsl K hsn
  have HL := hide hL
  replace hsn := hide hsn
  clear h hL
  go_enter Try.func55, Try.ntmps55
  go_wp2
  go_loopw [5, 6] (fun t i wr => ∃ (k : Nat) (u : Value), k ≤ s ∧ u = t ∧ i = .int .i64 k ∧ OwnB wr w.heap.size u (c.take k) ∧ Only [] w wr) (fun _ i _ => s - (intOf i).toNat)
  case atStart => exact ⟨0, _, by omega, rfl, rfl, ownB_nil _ _, Only.refl _ _⟩
  case round =>
    obtain ⟨k, u, hk, rfl, rfl, V, O⟩ := hrel
    have Kr := K.only O (by simp)
    have c1 := Kr.cell 1
    have hz := O.size
    by_cases hlt : k < s
    · have hL := HL.out
      obtain ⟨h1, h2⟩ := (hsn.out k hk).2 hlt
      have h2' : (k : Int) < (L : Int) := by omega
      obtain ⟨b, off, rfl, hb, hc⟩ := G (by omega)
      obtain ⟨x, hx⟩ : ∃ x, c[k]? = some x := ⟨_, List.getElem?_eq_getElem (by omega)⟩
      have cb : wr.cell? ⟨b, off + k, none⟩ = some (.int .u8 x) := (World.cell?_of_block (w := w) (O.block b hb (by simp))).trans (hc k x hx)
      have tk : c.take (k + 1) = c.take k ++ [x] := by rw [List.take_add_one, hx]; rfl
      have hbl : b < wr.heap.size := by omega
      have V1 := V.only ((Only.refl [] wr).alloc (.cells #[.int .u8 x] 5)) (by simp)
      have G1 : Rd (wr.alloc (.cells #[.int .u8 x] 5)) (some ⟨wr.heap.size, 0, none⟩) [x] := fun _ => ⟨wr.heap.size, 0, rfl, by simp, fun i v hi => by
        match i, hi with
        | 0, hi => simp at hi; subst hi; simp [World.cell?_alloc_mark]⟩
      have hl : (c.take k).length + 1 ≤ 140737488355328 := by simp; omega
      replace tk := hide tk
      clear hx hc hL
      go_wp2_with (at_builtin; refine wpList_app2 rfl (.tmp 21) (.tmp 29) rfl w.heap.size u (c.take k) rfl V1 (some ⟨wr.heap.size, 0, none⟩) 1 [x] rfl G1 (by simpa using hl) (by simp; omega) ?_; intro v9 w9 V9 P9 B9)
      go_roundw
      case rel => exact ⟨k + 1, _, by omega, rfl, by go_num, by rw [tk.out]; exact V9.out, (O.alloc _).trans P9 (fun x hx => .inr (by have := V.block x (by simpa using hx); omega))⟩
      case measure => simp [intOf]; omega
    · obtain rfl : k = s := by omega
      by_cases h1 : (k : Int) < n
      · have h2 : ¬ (k : Int) < (L : Int) := by
          intro h2
          have hL := HL.out
          exact absurd ((hsn.out k hk).1 ⟨h1, by omega⟩) (by omega)
        go_wp2
        go_ret
        exact ⟨_, rfl, V, O⟩
      · go_wp2
        go_ret
        exact ⟨_, rfl, V, O⟩

def RDrop (w : World) (g size base : Nat) (v : Value) (c : List Int) (k : Nat) (e : Ending) (w' : World) : Prop := ∃ v', e = .returned (.int .i64 k) ∧ RefV w' g size base v' (c.drop k) ∧ Moved w w' g v v'
set_option maxRecDepth 100000 in
set_option maxHeartbeats 1600000 in
theorem refDrop_any (n : Int) (h : RefV w g size base v c) (hB : base ≤ w.heap.size) : Calls Try.prog 56 #[.pointer (some ⟨g, 0, none⟩), .int .i64 n] w (RDrop w g size base v c (some_ c.length n)) := by
  have hle := h.le
  have hbig := h.big
  have hlow := h.low
  have hgl := h.ring.lt
  have hsl := some_le c.length n
  obtain ⟨s, hs⟩ : ∃ s, s = some_ c.length n := ⟨_, rfl⟩
  obtain ⟨m, hm⟩ : ∃ m, m = c.take s := ⟨_, rfl⟩
  have hml : m.length = s := by rw [hm, hs]; simp; omega
  have X := refPeek_any g size base v c w n h
  rw [← hs, ← hm] at X
  rw [← hs] at hsl ⊢
  rw [← hml] at hsl ⊢
  clear hs hm hml
  obtain ⟨d, hd⟩ : ∃ d, d = c.drop m.length := ⟨_, rfl⟩
  have hdl : d.length = c.length - m.length := by rw [hd]; simp
  obtain ⟨A, cap, rfl, G, hc1, hc2, hAb⟩ := h.own.rd
  have hmc : m.length ≤ cap := by omega
  go_enter Try.func56, Try.ntmps56
  go_wp2_with fail
  go_call X as e w1 ⟨r, rfl, V1, P1⟩
  obtain ⟨A1, k1, rfl, _, _, _, _⟩ := V1.rd
  clear X V1
  have K := h.ring.only P1 (by simp)
  have z1 := P1.size
  have c1 := (K.alloc (.cells #[] 5)).cell 1
  have V0 : OwnB (w1.alloc (.cells #[] 5)) w1.heap.size (.slice (some ⟨w1.heap.size, 0, none⟩) 0 0) [] := ownB_lit w1 _ [] (Nat.le_refl _) (by decide)
  have O1 := P1.alloc (.cells #[] 5)
  have Gd : ∀ A', (A' = A ∧ d = [] ∨ A' = Option.map (fun x => x.add m.length) A) → Rd (w1.alloc (.cells #[] 5)) A' d := by
    intro A' hA'
    rcases hA' with ⟨rfl, rfl⟩ | rfl
    · exact Rd.none
    · rw [hd]; exact (G.only O1).drop _
  have hdl2 : d.length = c.length - m.length := hdl
  have hd0 : cap = m.length → d = [] := fun e => List.eq_nil_of_length_eq_zero (by omega)
  generalize c.length = L at *
  replace hd := hide hd
  replace hdl := hide hdl2
  replace hd0 := hide hd0
  replace Gd := hide Gd
  clear hdl2
  have fin : ∀ v9 w9 A' k', Only [] w w1 → OwnB w9 w1.heap.size v9 ([] ++ d) → Only [w1.heap.size] (w1.alloc (.cells #[] 5)) w9 → RefV (w9.setCell ⟨g, 1, none⟩ v9) g size base v9 (c.drop m.length) ∧ Moved w (w9.setCell ⟨g, 1, none⟩ v9) g (.slice A' L k') v9 := by
    intro v9 w9 A' k' P1 V9 P9
    have Q9 : Only [] w1 w9 := ((Only.refl [] w1).alloc _).trans P9 (by simp)
    have K9 := K.only Q9 (by simp)
    have V9' := V9.far ((Only.refl [g] w9).setCell (p := ⟨g, 1, none⟩) (.inl (by simp)) v9) (fun x hx hv => by
      simp at hx
      have := V9.block x hv.symm
      omega)
    rw [← hd.out]
    refine ⟨⟨?_, V9'.mono (by omega), by rw [hdl.out]; omega, hbig, hlow⟩, ?_, .inr fun x hx => by have := V9.block x hx; omega⟩
    · have := K9.set_ 1 v9
      simpa using this
    · exact (((P1.trans Q9 (by simp)).mono (by simp)).setCell (p := ⟨g, 1, none⟩) (.inl (by simp)) v9)
  replace fin := hide fin
  have K1 := hide K
  have zg : g < w1.heap.size := by omega
  clear K h
  go_wp2_with (at_builtin; go_must (refine wpList_app3 rfl (.tmp 11) (.tmp 17) rfl w1.heap.size (.slice (some ⟨w1.heap.size, 0, none⟩) 0 0) [] rfl V0 _ _ d (L - m.length) hdl.out rfl (Gd.out _ (by by_cases hq : cap = m.length <;> first | (rw [if_pos hq]; exact .inl ⟨rfl, hd0.out hq⟩) | (rw [if_neg hq]; exact .inr rfl))) (by rw [hdl.out]; simp; omega) (by simp) ?_); intro v9 w9 V9 P9 _
               obtain ⟨A9, k9, rfl, _⟩ := V9.out.rd
               have K9 := (K1.out.alloc (.cells #[] 5)).only P9 (by simp [Value.ownBlock]; omega)
               have f1 := K9.frozen 1; have cc1 := K9.cell 1; clear K9)
  all_goals
    go_ret
    obtain ⟨h1, h2⟩ := fin.out _ _ _ _ P1 V9.out P9
    exact ⟨_, rfl, h1, h2⟩

def RRead (w : World) (g size base : Nat) (v : Value) (c : List Int) (k : Nat) (e : Ending) (w' : World) : Prop := ∃ r v', e = .returned r ∧ OwnB w' w.heap.size r (c.take k) ∧ RefV w' g size base v' (c.drop k) ∧ Moved w w' g v v'
theorem refRead_any (n : Int) (h : RefV w g size base v c) (hB : base ≤ w.heap.size) : Calls Try.prog 54 #[.pointer (some ⟨g, 0, none⟩), .int .i64 n] w (RRead w g size base v c (some_ c.length n)) := by
  have hlow := h.low
  have hgl := h.ring.lt
  go_enter Try.func54, Try.ntmps54
  go_wp2_with fail
  go_call (refPeek_any g size base v c w n h) as e w1 ⟨r, rfl, V1, P1⟩
  have z1 := P1.size
  have h1 := h.only P1 (by simp) (by simp)
  go_wp2_with fail
  go_call (refDrop_any g size base v c w1 n h1 (by omega)) as e w2 ⟨v', rfl, h2, M2⟩
  go_wp2_with fail
  go_ret
  refine ⟨_, v', rfl, V1.far M2.1 (fun x hx hv => ?_), h2, (P1.mono (by simp)).trans M2.1 (fun x hx => .inl hx), M2.2.imp id (fun hh x hx => by have := hh x hx; omega)⟩
  have hv := V1.block x hv.symm
  simp at hx
  rcases hx with rfl | hx
  · omega
  · have := h.own.block x hx; omega
end
end Go.Proofs.Ytamnnggijmmogaa
