/- The document's answer for layer 1: a right field in bytes; no condition. -/
import Derived.Test.YtdmjabfjkkjhbaaDoorRefG
import Derived.Test.YtdmjabfjkkjhbaaDoorRefD
import Derived.Test.YtdmjabfjkkjhbaaDoorOctW
namespace Go.Proofs.YtdmjabfjkkjhbaaDoor
set_option linter.all false
open Go.RowKit

/-- What 'one' hands on. -/
def OnePost (w : World) (l : List Int) : Ending → World → Prop := fun e w' => Only [] w w' ∧ ∃ v, e = .returned v ∧ OwnB w' w.heap.size v l
theorem u32_small (n : Nat) (h : n ≤ 4294967295) : ((n : Int) % 4294967296) = n := by omega

section
variable (f : FD) (w : World)
set_option maxRecDepth 100000 in
set_option maxHeartbeats 3200000 in
theorem one_small (hk : f.kind = 1 ∨ f.kind = 2 ∨ f.kind = 3 ∨ f.kind = 6) (hf : f.ok w) (hn : 0 ≤ f.n ∧ f.n ≤ 4294967295) (hlen : f.text.length ≤ 33792 ∨ f.kind ≠ 6) :
    Calls Tryd.prog 35 #[f.val] w (OnePost w (bytesP f.pf)) := by
  obtain ⟨w1, hw1⟩ : ∃ w1, w1 = w.alloc (.cells #[.int .i64 f.kind, .int .u32 f.n, .slice f.tA f.text.length f.tc, .slice f.lA f.list.length f.lc] 35) := ⟨_, rfl⟩
  have P1 : Only [] w w1 := by rw [hw1]; exact (Only.refl _ _).alloc _
  have K1 : Blk w1 w.heap.size 35 [.int .i64 f.kind, .int .u32 f.n, .slice f.tA f.text.length f.tc, .slice f.lA f.list.length f.lc] := by rw [hw1]; exact Blk.new w _ _
  have c0 : w1.cell? ⟨w.heap.size, 0, none⟩ = some (.int .i64 f.kind) := K1.cell 0
  have c1 : w1.cell? ⟨w.heap.size, 1, none⟩ = some (.int .u32 f.n) := K1.cell 1
  have c2 : w1.cell? ⟨w.heap.size, 2, none⟩ = some (.slice f.tA f.text.length f.tc) := K1.cell 2
  have hlt := K1.lt
  have z1 := P1.size
  have R1 := hf.text.only P1
  have hs : w1.heap.size = w.heap.size + 1 := by rw [hw1]; simp
  replace hs := hide hs
  unfold FD.val
  rcases hk with hk | hk | hk | hk
  · rw [show bytesP f.pf = [f.n % 256] by unfold bytesP FD.pf; simp [hk]]
    rw [hk] at hw1 c0 ⊢
    go_enter Tryd.func35, Tryd.ntmps35
    go_wp2_with fail
    rw [← hw1]
    replace hw1 := hide hw1
    go_wp2_with fail
    go_ret
    exact ⟨P1.alloc _, .slice (some ⟨w.heap.size + 1, 0, none⟩) 1 1, rfl, by have := ownB_lit w1 w.heap.size [f.n % 256] z1 (by simp [maxLen]); rw [hs.out] at this; exact this⟩
  · rw [show bytesP f.pf = [f.n % 256] by unfold bytesP FD.pf; simp [hk]]
    rw [hk] at hw1 c0 ⊢
    go_enter Tryd.func35, Tryd.ntmps35
    go_wp2_with fail
    rw [← hw1]
    replace hw1 := hide hw1
    go_wp2_with fail
    go_ret
    exact ⟨P1.alloc _, .slice (some ⟨w.heap.size + 1, 0, none⟩) 1 1, rfl, by have := ownB_lit w1 w.heap.size [f.n % 256] z1 (by simp [maxLen]); rw [hs.out] at this; exact this⟩
  · rw [show bytesP f.pf = four f.n by unfold bytesP FD.pf; simp [hk]]
    rw [hk] at hw1 c0 ⊢
    go_enter Tryd.func35, Tryd.ntmps35
    go_wp2_with fail
    rw [← hw1]
    replace hw1 := hide hw1
    go_wp2_with fail
    go_call (refFour_any f.n w1 hn.1 hn.2) as e w2 ⟨rfl, rfl⟩
    go_wp2_with fail
    go_ret
    exact ⟨P1.alloc _, _, rfl, (ownB_lit w1 w.heap.size (four f.n) z1 (by simp [maxLen, four]))⟩
  · rw [show bytesP f.pf = f.text by unfold bytesP FD.pf; simp [hk]]
    have hl6 : f.text.length ≤ 33792 := by
      rcases hlen with h | h
      · exact h
      · exact absurd hk h
    rw [hk] at hw1 c0 ⊢
    have V6 : OwnB (w1.alloc (.cells #[] 5)) w1.heap.size (.slice (some ⟨w1.heap.size, 0, none⟩) 0 0) [] := ownB_lit w1 w1.heap.size [] (Nat.le_refl _) (by simp)
    have R6 : Rd (w1.alloc (.cells #[] 5)) f.tA f.text := R1.only ((Only.refl _ _).alloc _)
    go_enter Tryd.func35, Tryd.ntmps35
    have P6 : Only [] w (w1.alloc (.cells #[] 5)) := P1.alloc _
    rw [hs.out] at V6
    rw [hw1] at V6 R6 P6
    clear hw1 c0 c1 c2 R1 K1 hlt
    go_wp2_with (at_builtin; go_must (refine wpList_app3 rfl (.tmp 39) (.tmp 41) rfl (w.heap.size + 1) (.slice (some ⟨w.heap.size + 1, 0, none⟩) 0 0) [] rfl V6 f.tA f.tc f.text _ rfl rfl R6 (by simp; omega) (by simp) ?_; intro v8 w8 V8 P8 G8))
    go_ret
    have V8' := V8.out
    rw [List.nil_append] at V8'
    exact ⟨P6.trans P8 (fun x hx => .inr (by simp [Value.ownBlock] at hx; omega)), _, rfl, V8'.mono (Nat.le_succ _)⟩

set_option maxRecDepth 100000 in
set_option maxHeartbeats 3200000 in
theorem one_names (hk : f.kind = 5) (hf : f.ok w) (h5 : namesBad f.list = 0) :
    Calls Tryd.prog 35 #[f.val] w (OnePost w (bytesP f.pf)) := by
  obtain ⟨w1, hw1⟩ : ∃ w1, w1 = w.alloc (.cells #[.int .i64 f.kind, .int .u32 f.n, .slice f.tA f.text.length f.tc, .slice f.lA f.list.length f.lc] 35) := ⟨_, rfl⟩
  have P1 : Only [] w w1 := by rw [hw1]; exact (Only.refl _ _).alloc _
  have z1 := P1.size
  obtain ⟨a1, a2⟩ := namesBad_ok h5
  have hj := joinU_le f.list a2
  have J := refJoined_any f.lA f.list f.lc w1 (hf.list.only P1) a1 a2
  rw [show bytesP f.pf = four (joinU f.list).length ++ u8i (joinU f.list) by unfold bytesP FD.pf; simp [hk]]
  unfold FD.val
  have hul : (u8i (joinU f.list)).length = (joinU f.list).length := by unfold u8i; rw [List.length_map]
  obtain ⟨js, hjs⟩ : ∃ js, u8i (joinU f.list) = js := ⟨_, rfl⟩
  rw [hjs] at J hul ⊢
  rw [← hul] at hj ⊢
  have hj2 : js.length ≤ 4160 := by omega
  rw [hk] at hw1 ⊢
  clear hj hul hjs a1 a2
  go_enter Tryd.func35, Tryd.ntmps35
  go_wp2_with fail
  rw [← hw1]
  replace hw1 := hide hw1
  go_call J as e w2 ⟨P2, v2, rfl, V2⟩
  obtain ⟨A2, k2, rfl, R2, q2, m2, a2⟩ := V2.rd
  have z2 := P2.size
  have FR := refFour_any (js.length : Int) w2 (by omega) (by omega)
  have h32 : ((js.length : Int) % 4294967296) = (js.length : Int) := by omega
  go_wp2_with fail
  go_call FR as e w3 ⟨rfl, rfl⟩
  have V6 : OwnB (w2.alloc (.cells (u8s (four js.length)).toArray 5)) w2.heap.size (.slice (some ⟨w2.heap.size, 0, none⟩) 4 4) (four js.length) := ownB_lit w2 w2.heap.size (four js.length) (Nat.le_refl _) (by simp [four, maxLen])
  have R6 : Rd (w2.alloc (.cells (u8s (four js.length)).toArray 5)) A2 js := R2.only ((Only.refl _ _).alloc _)
  go_wp2_with (at_builtin; go_must (refine wpList_app3 rfl (.tmp 36) (.tmp 37) rfl w2.heap.size (.slice (some ⟨w2.heap.size, 0, none⟩) 4 4) (four js.length) rfl V6 A2 k2 js _ rfl rfl R6 (by simp [four]; omega) (by simp) ?_; intro v8 w8 V8 P8 G8))
  go_ret
  exact ⟨((P1.trans P2 (by simp)).alloc _).trans P8 (fun x hx => .inr (by simp [Value.ownBlock] at hx; omega)), _, rfl, OwnB.mono V8.out (by omega)⟩

set_option maxRecDepth 100000 in
set_option maxHeartbeats 3200000 in
theorem one_text (hk : f.kind = 4) (hf : f.ok w) (h4 : f.text.length ≤ 32768) :
    Calls Tryd.prog 35 #[f.val] w (OnePost w (bytesP f.pf)) := by
  obtain ⟨w1, hw1⟩ : ∃ w1, w1 = w.alloc (.cells #[.int .i64 f.kind, .int .u32 f.n, .slice f.tA f.text.length f.tc, .slice f.lA f.list.length f.lc] 35) := ⟨_, rfl⟩
  have P1 : Only [] w w1 := by rw [hw1]; exact (Only.refl _ _).alloc _
  have K1 : Blk w1 w.heap.size 35 [.int .i64 f.kind, .int .u32 f.n, .slice f.tA f.text.length f.tc, .slice f.lA f.list.length f.lc] := by rw [hw1]; exact Blk.new w _ _
  have c2 : w1.cell? ⟨w.heap.size, 2, none⟩ = some (.slice f.tA f.text.length f.tc) := K1.cell 2
  have z1 := P1.size
  have R1 : Rd w1 f.tA f.text := hf.text.only P1
  have hlt := K1.lt
  rw [show bytesP f.pf = four f.text.length ++ f.text by unfold bytesP FD.pf; simp [hk]]
  unfold FD.val
  obtain ⟨tA, htA⟩ : ∃ x, f.tA = x := ⟨_, rfl⟩
  obtain ⟨tx, htx⟩ : ∃ x, f.text = x := ⟨_, rfl⟩
  obtain ⟨tc, htc⟩ : ∃ x, f.tc = x := ⟨_, rfl⟩
  rw [htA, htx, htc] at c2 hw1
  rw [htA, htx] at R1
  rw [htx] at h4
  rw [htA, htx, htc]
  rw [hk] at hw1 ⊢
  have h32 : ((tx.length : Int) % 4294967296) = (tx.length : Int) := by omega
  have hwr : IntKind.u32.wrap (tx.length : Int) = (tx.length : Int) := by rw [IntKind.wrap_u32]; omega
  have hI : (fun w' : World => w'.cell? ⟨w.heap.size, 2, none⟩ = some (.slice tA tx.length tc)) { w1 with drawn := w1.drawn + 1 } := c2
  clear htA htx htc
  go_enter Tryd.func35, Tryd.ntmps35
  go_wp2_with fail
  rw [← hw1]
  replace hw1 := hide hw1
  refine wp_region_E (fun w' : World => w'.cell? ⟨w.heap.size, 2, none⟩ = some (.slice tA tx.length tc)) [7, 8] (by kernel_rfl) ?_
  refine wpAnyE_take 0 (v := (.pointer (some ⟨w.heap.size, 2, none⟩))) rfl (by kernel_rfl) (fun _ _ _ h => h) hI (fun w' hw' => Or.inl ⟨by rfl, Or.inl (by go_simp)⟩) ?_
  refine wpAnyE_take 1 (v := (.slice tA tx.length tc)) rfl (by kernel_rfl) (fun _ _ _ h => h) hI (fun w' hw' => Or.inl ⟨by rfl, Or.inl (by go_simp)⟩) ?_
  refine wpAnyE_take 2 (v := (.int .i64 (tx.length : Int))) rfl (by kernel_rfl) (fun _ _ _ h => h) hI (fun w' hw' => Or.inl ⟨by rfl, Or.inl (by go_simp)⟩) ?_
  refine wpAnyE_take 3 (v := (.int .u32 (tx.length : Int))) rfl (by kernel_rfl) (fun _ _ _ h => h) hI (fun w' hw' => Or.inl ⟨by rfl, Or.inl (by go_simp)⟩) ?_
  refine wpAnyE_take 5 (v := (.pointer (some ⟨w.heap.size, 2, none⟩))) rfl (by kernel_rfl) (fun _ _ _ h => h) hI (fun w' hw' => Or.inl ⟨by rfl, Or.inl (by go_simp)⟩) ?_
  refine wpAnyE_take 6 (v := (.slice tA tx.length tc)) rfl (by kernel_rfl) (fun _ _ _ h => h) hI (fun w' hw' => Or.inl ⟨by rfl, Or.inl (by go_simp)⟩) ?_
  refine wpAnyE_chain [4] [7, 8] rfl (by kernel_rfl) hI ?_
  simp only [pick, List.filterMap_cons, List.filterMap_nil, List.cons_append, List.nil_append, List.getElem?_toArray, List.getElem?_cons_succ, List.getElem?_cons_zero, List.length_cons, List.length_nil]
  refine wpListI_step (fun K hK => ?_)
  go_simp
  have FR := refFour_any (tx.length : Int) w1.drew (by omega) (by omega)
  go_call FR as e w3 ⟨rfl, rfl⟩
  have K3 := (K1.only ((Only.refl [] w1).drew) (by simp)).alloc (.cells (u8s (four tx.length)).toArray 5)
  have P3 : Only [] w1 (w1.drew.alloc (.cells (u8s (four tx.length)).toArray 5)) := ((Only.refl [] w1).drew).alloc _
  have V6 : OwnB (w1.drew.alloc (.cells (u8s (four tx.length)).toArray 5)) w1.drew.heap.size (.slice (some ⟨w1.drew.heap.size, 0, none⟩) 4 4) (four tx.length) := ownB_lit w1.drew w1.drew.heap.size (four tx.length) (Nat.le_refl _) (by simp [four, maxLen])
  have R6 := R1.only P3
  refine hK _ _ (cellL P3 hlt (by simp) c2) ?_
  clear hK K
  refine wpListI_zero ?_
  refine wpList_app3 rfl (.tmp 24) (.tmp 26) rfl w1.drew.heap.size (.slice (some ⟨w1.drew.heap.size, 0, none⟩) 4 4) (four tx.length) rfl V6 tA tc tx _ rfl rfl R6 (by simp [four]; omega) (by simp) ?_
  intro v8 w8 V8 P8 G8
  go_wp2_with fail
  go_ret
  exact ⟨(P1.trans P3 (by simp)).trans P8 (fun x hx => .inr (by simp [Value.ownBlock] at hx; omega)), _, rfl, OwnB.mono V8.out (show w.heap.size ≤ w1.heap.size from z1)⟩
end
/-- A right field in bytes. -/
theorem one_any (f : FD) (w : World) (h1 : 1 ≤ f.kind) (h6 : f.kind ≤ 6) (hf : f.ok w) (hn : 0 ≤ f.n ∧ f.n ≤ 4294967295) (h0 : faultP f.pf = 0) : Calls Tryd.prog 35 #[f.val] w (OnePost w (bytesP f.pf)) := by
  by_cases h4 : f.kind = 4
  · have e : faultP f.pf = over f.text.length 32768 6 := by unfold faultP FD.pf; simp [h4]
    rw [e] at h0
    have := over_ok h0 (by decide)
    exact one_text f w h4 hf (by omega)
  by_cases h5 : f.kind = 5
  · have e : faultP f.pf = namesBad f.list := by unfold faultP FD.pf; simp [h5]
    rw [e] at h0
    exact one_names f w h5 hf h0
  · refine one_small f w (by omega) hf hn ?_
    by_cases h7 : f.kind = 6
    · left
      have e : faultP f.pf = over f.text.length 33792 6 := by unfold faultP FD.pf; simp [h7]
      rw [e] at h0
      have := over_ok h0 (by decide)
      omega
    · exact .inr h7
end Go.Proofs.YtdmjabfjkkjhbaaDoor
