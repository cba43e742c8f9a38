/- The document's answer for layer 1: a right field in bytes; no condition · The document's answer for layer 1: Size, Write; no condition but the number of fields. -/
import Derived.Test.YtpojfcpeibnohaaGreatDoorRefG
import Derived.Test.YtpojfcpeibnohaaGreatDoorRefD
import Derived.Test.YtpojfcpeibnohaaGreatDoorOctW
import Derived.Test.YtpojfcpeibnohaaGreatDoorRefB
import Derived.Test.YtpojfcpeibnohaaGreatDoorAppI
namespace Go.Proofs.YtpojfcpeibnohaaGreatDoor
set_option linter.all false
open Go.RowKit

/-- What 'one' hands on. -/
def OnePost (w : World) (l : List Int) : Ending → World → Prop := fun e w' => Only [] w w' ∧ ∃ v, e = .returned v ∧ OwnB w' w.heap.size v l
theorem u32_small (n : Nat) (h : n ≤ 4294967295) : ((n : Int) % 4294967296) = n := by omega

section
variable (f : FD) (w : World)
set_option maxRecDepth 100000 in
set_option maxHeartbeats 3200000 in
theorem one_small (hk : f.kind = 1 ∨ f.kind = 2 ∨ f.kind = 3 ∨ f.kind = 6) (hf : f.ok w) (hn : 0 ≤ f.n ∧ f.n ≤ 4294967295) (hlen : f.text.length ≤ 33792 ∨ f.kind ≠ 6) :
    Calls Tryz.prog 68 #[f.val] w (OnePost w (bytesP f.pf)) := by
  obtain ⟨w1, hw1⟩ : ∃ w1, w1 = w.alloc (.cells #[.int .i64 f.kind, .int .u32 f.n, .slice f.tA f.text.length f.tc, .slice f.lA f.list.length f.lc] 123) := ⟨_, rfl⟩
  have P1 : Only [] w w1 := by rw [hw1]; exact (Only.refl _ _).alloc _
  have K1 : Blk w1 w.heap.size 123 [.int .i64 f.kind, .int .u32 f.n, .slice f.tA f.text.length f.tc, .slice f.lA f.list.length f.lc] := by rw [hw1]; exact Blk.new w _ _
  have c0 : w1.cell? ⟨w.heap.size, 0, none⟩ = some (.int .i64 f.kind) := K1.cell 0
  have c1 : w1.cell? ⟨w.heap.size, 1, none⟩ = some (.int .u32 f.n) := K1.cell 1
  have c2 : w1.cell? ⟨w.heap.size, 2, none⟩ = some (.slice f.tA f.text.length f.tc) := K1.cell 2
  have hlt := K1.lt
  have z1 := P1.size
  have R1 := hf.text.only P1
  have hs : w1.heap.size = w.heap.size + 1 := by rw [hw1]; simp
  replace hs := hide hs
  unfold FD.val
  rcases hk with hk | hk | hk | hk
  · rw [show bytesP f.pf = [f.n % 256] by unfold bytesP FD.pf; simp [hk]]
    rw [hk] at hw1 c0 ⊢
    go_enter Tryz.func68, Tryz.ntmps68
    go_wp2_with fail
    rw [← hw1]
    replace hw1 := hide hw1
    go_wp2_with fail
    go_ret
    exact ⟨P1.alloc _, .slice (some ⟨w.heap.size + 1, 0, none⟩) 1 1, rfl, by have := ownB_lit w1 w.heap.size [f.n % 256] z1 (by simp [maxLen]); rw [hs.out] at this; exact this⟩
  · rw [show bytesP f.pf = [f.n % 256] by unfold bytesP FD.pf; simp [hk]]
    rw [hk] at hw1 c0 ⊢
    go_enter Tryz.func68, Tryz.ntmps68
    go_wp2_with fail
    rw [← hw1]
    replace hw1 := hide hw1
    go_wp2_with fail
    go_ret
    exact ⟨P1.alloc _, .slice (some ⟨w.heap.size + 1, 0, none⟩) 1 1, rfl, by have := ownB_lit w1 w.heap.size [f.n % 256] z1 (by simp [maxLen]); rw [hs.out] at this; exact this⟩
  · rw [show bytesP f.pf = four f.n by unfold bytesP FD.pf; simp [hk]]
    rw [hk] at hw1 c0 ⊢
    go_enter Tryz.func68, Tryz.ntmps68
    go_wp2_with fail
    rw [← hw1]
    replace hw1 := hide hw1
    go_wp2_with fail
    go_call (refFour_any f.n w1 hn.1 hn.2) as e w2 ⟨rfl, rfl⟩
    go_wp2_with fail
    go_ret
    exact ⟨P1.alloc _, _, rfl, (ownB_lit w1 w.heap.size (four f.n) z1 (by simp [maxLen, four]))⟩
  · rw [show bytesP f.pf = f.text by unfold bytesP FD.pf; simp [hk]]
    have hl6 : f.text.length ≤ 33792 := by
      rcases hlen with h | h
      · exact h
      · exact absurd hk h
    rw [hk] at hw1 c0 ⊢
    have V6 : OwnB (w1.alloc (.cells #[] 5)) w1.heap.size (.slice (some ⟨w1.heap.size, 0, none⟩) 0 0) [] := ownB_lit w1 w1.heap.size [] (Nat.le_refl _) (by simp)
    have R6 : Rd (w1.alloc (.cells #[] 5)) f.tA f.text := R1.only ((Only.refl _ _).alloc _)
    go_enter Tryz.func68, Tryz.ntmps68
    have P6 : Only [] w (w1.alloc (.cells #[] 5)) := P1.alloc _
    rw [hs.out] at V6
    rw [hw1] at V6 R6 P6
    clear hw1 c0 c1 c2 R1 K1 hlt
    go_wp2_with (at_builtin; go_must (refine wpList_app3 rfl (.tmp 39) (.tmp 41) rfl (w.heap.size + 1) (.slice (some ⟨w.heap.size + 1, 0, none⟩) 0 0) [] rfl V6 f.tA f.tc f.text _ rfl rfl R6 (by simp; omega) (by simp) ?_; intro v8 w8 V8 P8 G8))
    go_ret
    have V8' := V8.out
    rw [List.nil_append] at V8'
    exact ⟨P6.trans P8 (fun x hx => .inr (by simp [Value.ownBlock] at hx; omega)), _, rfl, V8'.mono (Nat.le_succ _)⟩

set_option maxRecDepth 100000 in
set_option maxHeartbeats 3200000 in
theorem one_names (hk : f.kind = 5) (hf : f.ok w) (h5 : namesBad f.list = 0) :
    Calls Tryz.prog 68 #[f.val] w (OnePost w (bytesP f.pf)) := by
  obtain ⟨w1, hw1⟩ : ∃ w1, w1 = w.alloc (.cells #[.int .i64 f.kind, .int .u32 f.n, .slice f.tA f.text.length f.tc, .slice f.lA f.list.length f.lc] 123) := ⟨_, rfl⟩
  have P1 : Only [] w w1 := by rw [hw1]; exact (Only.refl _ _).alloc _
  have z1 := P1.size
  obtain ⟨a1, a2⟩ := namesBad_ok h5
  have hj := joinU_le f.list a2
  have J := refJoined_any f.lA f.list f.lc w1 (hf.list.only P1) a1 a2
  rw [show bytesP f.pf = four (joinU f.list).length ++ u8i (joinU f.list) by unfold bytesP FD.pf; simp [hk]]
  unfold FD.val
  have hul : (u8i (joinU f.list)).length = (joinU f.list).length := by unfold u8i; rw [List.length_map]
  obtain ⟨js, hjs⟩ : ∃ js, u8i (joinU f.list) = js := ⟨_, rfl⟩
  rw [hjs] at J hul ⊢
  rw [← hul] at hj ⊢
  have hj2 : js.length ≤ 4160 := by omega
  rw [hk] at hw1 ⊢
  clear hj hul hjs a1 a2
  go_enter Tryz.func68, Tryz.ntmps68
  go_wp2_with fail
  rw [← hw1]
  replace hw1 := hide hw1
  go_call J as e w2 ⟨P2, v2, rfl, V2⟩
  obtain ⟨A2, k2, rfl, R2, q2, m2, a2⟩ := V2.rd
  have z2 := P2.size
  have FR := refFour_any (js.length : Int) w2 (by omega) (by omega)
  have h32 : ((js.length : Int) % 4294967296) = (js.length : Int) := by omega
  go_wp2_with fail
  go_call FR as e w3 ⟨rfl, rfl⟩
  have V6 : OwnB (w2.alloc (.cells (u8s (four js.length)).toArray 5)) w2.heap.size (.slice (some ⟨w2.heap.size, 0, none⟩) 4 4) (four js.length) := ownB_lit w2 w2.heap.size (four js.length) (Nat.le_refl _) (by simp [four, maxLen])
  have R6 : Rd (w2.alloc (.cells (u8s (four js.length)).toArray 5)) A2 js := R2.only ((Only.refl _ _).alloc _)
  go_wp2_with (at_builtin; go_must (refine wpList_app3 rfl (.tmp 36) (.tmp 37) rfl w2.heap.size (.slice (some ⟨w2.heap.size, 0, none⟩) 4 4) (four js.length) rfl V6 A2 k2 js _ rfl rfl R6 (by simp [four]; omega) (by simp) ?_; intro v8 w8 V8 P8 G8))
  go_ret
  exact ⟨((P1.trans P2 (by simp)).alloc _).trans P8 (fun x hx => .inr (by simp [Value.ownBlock] at hx; omega)), _, rfl, OwnB.mono V8.out (by omega)⟩

set_option maxRecDepth 100000 in
set_option maxHeartbeats 3200000 in
theorem one_text (hk : f.kind = 4) (hf : f.ok w) (h4 : f.text.length ≤ 32768) :
    Calls Tryz.prog 68 #[f.val] w (OnePost w (bytesP f.pf)) := by
  obtain ⟨w1, hw1⟩ : ∃ w1, w1 = w.alloc (.cells #[.int .i64 f.kind, .int .u32 f.n, .slice f.tA f.text.length f.tc, .slice f.lA f.list.length f.lc] 123) := ⟨_, rfl⟩
  have P1 : Only [] w w1 := by rw [hw1]; exact (Only.refl _ _).alloc _
  have K1 : Blk w1 w.heap.size 123 [.int .i64 f.kind, .int .u32 f.n, .slice f.tA f.text.length f.tc, .slice f.lA f.list.length f.lc] := by rw [hw1]; exact Blk.new w _ _
  have c2 : w1.cell? ⟨w.heap.size, 2, none⟩ = some (.slice f.tA f.text.length f.tc) := K1.cell 2
  have z1 := P1.size
  have R1 : Rd w1 f.tA f.text := hf.text.only P1
  have hlt := K1.lt
  rw [show bytesP f.pf = four f.text.length ++ f.text by unfold bytesP FD.pf; simp [hk]]
  unfold FD.val
  obtain ⟨tA, htA⟩ : ∃ x, f.tA = x := ⟨_, rfl⟩
  obtain ⟨tx, htx⟩ : ∃ x, f.text = x := ⟨_, rfl⟩
  obtain ⟨tc, htc⟩ : ∃ x, f.tc = x := ⟨_, rfl⟩
  rw [htA, htx, htc] at c2 hw1
  rw [htA, htx] at R1
  rw [htx] at h4
  rw [htA, htx, htc]
  rw [hk] at hw1 ⊢
  have h32 : ((tx.length : Int) % 4294967296) = (tx.length : Int) := by omega
  have hwr : IntKind.u32.wrap (tx.length : Int) = (tx.length : Int) := by rw [IntKind.wrap_u32]; omega
  have hI : (fun w' : World => w'.cell? ⟨w.heap.size, 2, none⟩ = some (.slice tA tx.length tc)) { w1 with drawn := w1.drawn + 1 } := c2
  clear htA htx htc
  go_enter Tryz.func68, Tryz.ntmps68
  go_wp2_with fail
  rw [← hw1]
  replace hw1 := hide hw1
  refine wp_region_E (fun w' : World => w'.cell? ⟨w.heap.size, 2, none⟩ = some (.slice tA tx.length tc)) [7, 8] (by kernel_rfl) ?_
  refine wpAnyE_take 0 (v := (.pointer (some ⟨w.heap.size, 2, none⟩))) rfl (by kernel_rfl) (fun _ _ _ h => h) hI (fun w' hw' => Or.inl ⟨by rfl, Or.inl (by go_simp)⟩) ?_
  refine wpAnyE_take 1 (v := (.slice tA tx.length tc)) rfl (by kernel_rfl) (fun _ _ _ h => h) hI (fun w' hw' => Or.inl ⟨by rfl, Or.inl (by go_simp)⟩) ?_
  refine wpAnyE_take 2 (v := (.int .i64 (tx.length : Int))) rfl (by kernel_rfl) (fun _ _ _ h => h) hI (fun w' hw' => Or.inl ⟨by rfl, Or.inl (by go_simp)⟩) ?_
  refine wpAnyE_take 3 (v := (.int .u32 (tx.length : Int))) rfl (by kernel_rfl) (fun _ _ _ h => h) hI (fun w' hw' => Or.inl ⟨by rfl, Or.inl (by go_simp)⟩) ?_
  refine wpAnyE_take 5 (v := (.pointer (some ⟨w.heap.size, 2, none⟩))) rfl (by kernel_rfl) (fun _ _ _ h => h) hI (fun w' hw' => Or.inl ⟨by rfl, Or.inl (by go_simp)⟩) ?_
  refine wpAnyE_take 6 (v := (.slice tA tx.length tc)) rfl (by kernel_rfl) (fun _ _ _ h => h) hI (fun w' hw' => Or.inl ⟨by rfl, Or.inl (by go_simp)⟩) ?_
  refine wpAnyE_chain [4] [7, 8] rfl (by kernel_rfl) hI ?_
  simp only [pick, List.filterMap_cons, List.filterMap_nil, List.cons_append, List.nil_append, List.getElem?_toArray, List.getElem?_cons_succ, List.getElem?_cons_zero, List.length_cons, List.length_nil]
  refine wpListI_step (fun K hK => ?_)
  go_simp
  have FR := refFour_any (tx.length : Int) w1.drew (by omega) (by omega)
  go_call FR as e w3 ⟨rfl, rfl⟩
  have K3 := (K1.only ((Only.refl [] w1).drew) (by simp)).alloc (.cells (u8s (four tx.length)).toArray 5)
  have P3 : Only [] w1 (w1.drew.alloc (.cells (u8s (four tx.length)).toArray 5)) := ((Only.refl [] w1).drew).alloc _
  have V6 : OwnB (w1.drew.alloc (.cells (u8s (four tx.length)).toArray 5)) w1.drew.heap.size (.slice (some ⟨w1.drew.heap.size, 0, none⟩) 4 4) (four tx.length) := ownB_lit w1.drew w1.drew.heap.size (four tx.length) (Nat.le_refl _) (by simp [four, maxLen])
  have R6 := R1.only P3
  refine hK _ _ (cellL P3 hlt (by simp) c2) ?_
  clear hK K
  refine wpListI_zero ?_
  refine wpList_app3 rfl (.tmp 24) (.tmp 26) rfl w1.drew.heap.size (.slice (some ⟨w1.drew.heap.size, 0, none⟩) 4 4) (four tx.length) rfl V6 tA tc tx _ rfl rfl R6 (by simp [four]; omega) (by simp) ?_
  intro v8 w8 V8 P8 G8
  go_wp2_with fail
  go_ret
  exact ⟨(P1.trans P3 (by simp)).trans P8 (fun x hx => .inr (by simp [Value.ownBlock] at hx; omega)), _, rfl, OwnB.mono V8.out (show w.heap.size ≤ w1.heap.size from z1)⟩
end
/-- A right field in bytes. -/
theorem one_any (f : FD) (w : World) (h1 : 1 ≤ f.kind) (h6 : f.kind ≤ 6) (hf : f.ok w) (hn : 0 ≤ f.n ∧ f.n ≤ 4294967295) (h0 : faultP f.pf = 0) : Calls Tryz.prog 68 #[f.val] w (OnePost w (bytesP f.pf)) := by
  by_cases h4 : f.kind = 4
  · have e : faultP f.pf = over f.text.length 32768 6 := by unfold faultP FD.pf; simp [h4]
    rw [e] at h0
    have := over_ok h0 (by decide)
    exact one_text f w h4 hf (by omega)
  by_cases h5 : f.kind = 5
  · have e : faultP f.pf = namesBad f.list := by unfold faultP FD.pf; simp [h5]
    rw [e] at h0
    exact one_names f w h5 hf h0
  · refine one_small f w (by omega) hf hn ?_
    by_cases h7 : f.kind = 6
    · left
      have e : faultP f.pf = over f.text.length 33792 6 := by unfold faultP FD.pf; simp [h7]
      rw [e] at h0
      have := over_ok h0 (by decide)
      omega
    · exact .inr h7
end Go.Proofs.YtpojfcpeibnohaaGreatDoor

namespace Go.Proofs.YtpojfcpeibnohaaGreatDoor
set_option linter.all false
open Go.RowKit

theorem bytesP_len {p : PF} (h1 : 1 ≤ p.kind) (h6 : p.kind ≤ 6) (h0 : faultP p = 0) : (bytesP p).length ≤ 40000 := by
  obtain ⟨k, n, t, ls⟩ := p
  dsimp only at h1 h6
  have hk : k = 1 ∨ k = 2 ∨ k = 3 ∨ k = 4 ∨ k = 5 ∨ k = 6 := by omega
  rcases hk with rfl | rfl | rfl | rfl | rfl | rfl
  · show ([n % 256] : List Int).length ≤ 40000; simp
  · show ([n % 256] : List Int).length ≤ 40000; simp
  · show (four n).length ≤ 40000; simp [four]
  · have h0 : over t.length 32768 6 = 0 := h0
    have := over_ok h0 (by decide)
    show (four t.length ++ t).length ≤ 40000
    simp [four]; omega
  · have h0 : namesBad ls = 0 := h0
    obtain ⟨a1, a2⟩ := namesBad_ok h0
    have hj := joinU_le ls a2
    show (four (joinU ls).length ++ u8i (joinU ls)).length ≤ 40000
    simp [four, u8i]; omega
  · have h0 : over t.length 33792 6 = 0 := h0
    have := over_ok h0 (by decide)
    show t.length ≤ 40000
    omega

set_option maxRecDepth 100000 in
set_option maxHeartbeats 6400000 in
theorem refWrite_any (w : World) (A : Option Addr) (fs : List FD) (c : Nat) (h : RdF w A fs) (hn1 : fs.length ≤ 1000) :
    Calls Tryz.prog 60 #[.slice A fs.length c] w (WritePost w (writeP (fs.map FD.pf))) := by
  obtain ⟨n, hn⟩ : ∃ n, n = fs.length := ⟨_, rfl⟩
  rw [← hn] at hn1 ⊢
  obtain ⟨res, hres⟩ : ∃ res, writeP (fs.map FD.pf) = res := ⟨_, rfl⟩
  rw [hres]
  replace hres := hide hres
  replace hn := hide hn
  go_enter Tryz.func60, Tryz.ntmps60
  go_wp2_with fail
  go_loopw [13, 4] (fun i o wr => ∃ (k : Nat) (v : Value), k ≤ n ∧ i = .int .i64 k ∧ v = o ∧ OwnI wr w.heap.size v ((fs.take k).map (·.kind)) ∧ Only [] w wr) (fun i _ _ => n - (intOf i).toNat)
  case atStart => exact ⟨0, _, by omega, rfl, rfl, ownI_nil _ _, Only.refl _ _⟩
  case round =>
    obtain ⟨wo, rfl⟩ : ∃ wo : World, wo = wr := ⟨_, rfl⟩
    obtain ⟨k, v, hkn, rfl, rfl, V, O⟩ := hrel
    have hob := V.block
    have z0 := O.size
    by_cases hlt : k < n
    · obtain ⟨f, hf⟩ : ∃ f, fs[k]? = some f := ⟨_, List.getElem?_eq_getElem (by have := hn.out; omega)⟩
      obtain ⟨b, off, rfl, hb, hc⟩ := (h.only O).cells (by have := hn.out; omega)
      obtain ⟨c0, c1, c2, c3⟩ := hc k f hf
      have hkk : (fs.take (k + 1)).map (·.kind) = (fs.take k).map (·.kind) ++ [f.kind] := by
        rw [take_snocG hf, List.map_append]
        rfl
      have hll : ((fs.take k).map (·.kind)).length = k := by rw [List.length_map, List.length_take]; have := hn.out; omega
      have X5 : Only [] wo ((wo.alloc (.cells #[.int .i64 f.kind, .int .u32 f.n, .slice f.tA f.text.length f.tc, .slice f.lA f.list.length f.lc] 123)).alloc (.cells #[.int .i64 f.kind] 3)) := ((Only.refl _ _).alloc _).alloc _
      have R5 : RdI ((wo.alloc (.cells #[.int .i64 f.kind, .int .u32 f.n, .slice f.tA f.text.length f.tc, .slice f.lA f.list.length f.lc] 123)).alloc (.cells #[.int .i64 f.kind] 3)) (some ⟨wo.heap.size + 1, 0, none⟩) [f.kind] := by
        have := rdI_new (wo.alloc (.cells #[.int .i64 f.kind, .int .u32 f.n, .slice f.tA f.text.length f.tc, .slice f.lA f.list.length f.lc] 123)) #[.int .i64 f.kind] [f.kind] rfl
        rw [show (wo.alloc (.cells #[.int .i64 f.kind, .int .u32 f.n, .slice f.tA f.text.length f.tc, .slice f.lA f.list.length f.lc] 123)).heap.size = wo.heap.size + 1 by simp] at this
        exact this
      have V5 : OwnI ((wo.alloc (.cells #[.int .i64 f.kind, .int .u32 f.n, .slice f.tA f.text.length f.tc, .slice f.lA f.list.length f.lc] 123)).alloc (.cells #[.int .i64 f.kind] 3)) w.heap.size v ((fs.take k).map (·.kind)) := V.far X5 (fun x hx => by simp at hx)
      replace hf := hide hf
      replace hkk := hide hkk
      replace hll := hide hll
      clear hc
      go_wp2_with (at_builtin; go_must (refine wpList_appI rfl (.tmp 17) (.tmp 20) rfl w.heap.size v ((fs.take k).map (·.kind)) rfl V5 (some ⟨wo.heap.size + 1, 0, none⟩) 1 [f.kind] _ rfl rfl R5 (by have := hll.out; rw [this]; simp; omega) (by simp; omega) ?_; intro v9 w9 V9 P9))
      go_roundw
      case rel =>
        refine ⟨k + 1, _, by omega, by go_num, rfl, ?_, (O.trans X5 (by simp)).trans P9 (fun x hx => .inr (hob x (by simpa using hx)).1)⟩
        rw [hkk.out]
        exact V9.out
      case measure => simp [intOf]; omega
    · obtain rfl : k = n := by omega
      rw [List.take_of_length_le (by have := hn.out; omega)] at V
      obtain ⟨ks, hks⟩ : ∃ ks, fs.map (·.kind) = ks := ⟨_, rfl⟩
      rw [hks] at V
      have hkl : ks.length = k := by rw [← hks, List.length_map, hn.out]
      obtain ⟨kA, kc, rfl, RK, _, _, _⟩ := V.rd
      have KN := refKinds_any kA ks kc wo RK (by unfold maxLen; omega)
      rw [hkl] at KN ⊢
      have hks2 : (fs.map FD.pf).map (·.kind) = ks := by rw [← hks, List.map_map]; rfl
      replace hks := hide hks
      replace hks2 := hide hks2
      replace hkl := hide hkl
      clear V
      by_cases hr : rowOk ks = true
      · rw [hr] at KN
        have hres1 : res = writeFrom (fs.map FD.pf) [] := by
          rw [← hres.out]
          unfold writeP
          rw [hks2.out, if_pos hr]
        replace hr := hide hr
        replace hres1 := hide hres1
        go_wp2_with fail
        go_call KN as e w1 ⟨rfl, rfl⟩
        clear KN
        go_wp2_with fail
        go_loopw [28, 7] (fun i o wr => ∃ (j : Nat) (v : Value) (acc : List Int), j ≤ k ∧ i = .int .i64 j ∧ v = o ∧ Hid (res = writeFrom ((fs.drop j).map FD.pf) acc) ∧ OwnB wr wo.heap.size v acc ∧ acc.length ≤ 33792 ∧ Only [] wo wr) (fun i _ _ => k - (intOf i).toNat)
        case atStart => exact ⟨0, _, [], by omega, rfl, rfl, hide (by simpa using hres1.out), ownB_nil _ _, by simp, Only.refl _ _⟩
        case round =>
          obtain ⟨wq, rfl⟩ : ∃ wq : World, wq = wr := ⟨_, rfl⟩
          obtain ⟨j, v, acc, hjk, rfl, rfl, hrs, V, hfew, O2⟩ := hrel
          have hob2 := V.block
          have z2 := O2.size
          by_cases hlt2 : j < k
          · obtain ⟨f, hf⟩ : ∃ f, fs[j]? = some f := ⟨_, List.getElem?_eq_getElem (by have := hn.out; omega)⟩
            obtain ⟨b, off, rfl, hb, hc⟩ := ((h.only O).only O2).cells (by have := hn.out; omega)
            obtain ⟨c0, c1, c2, c3⟩ := hc j f hf
            have okf := ((h.only O).only O2).ok f (List.mem_of_getElem? hf)
            obtain ⟨x1, x6⟩ := rowOk_at (i := j) (k := f.kind) hr.out (by rw [← hks2.out]; simp [hf, FD.pf])
            have hdrop : fs.drop j = f :: fs.drop (j + 1) := by
              have hki : j < fs.length := by have := hn.out; omega
              rw [List.drop_eq_getElem_cons hki]
              congr 1
              rw [List.getElem?_eq_getElem hki] at hf
              injection hf
            have hres2 := hrs.out
            rw [hdrop, List.map_cons] at hres2
            unfold writeFrom at hres2
            obtain ⟨w5, hw5⟩ : ∃ w5, w5 = wq.alloc (.cells #[.int .i64 f.kind, .int .u32 f.n, .slice f.tA f.text.length f.tc, .slice f.lA f.list.length f.lc] 123) := ⟨_, rfl⟩
            have X5 : Only [] wq w5 := by rw [hw5]; exact (Only.refl _ _).alloc _
            have K5 : Blk w5 wq.heap.size 123 [.int .i64 f.kind, .int .u32 f.n, .slice f.tA f.text.length f.tc, .slice f.lA f.list.length f.lc] := by rw [hw5]; exact Blk.new wq _ _
            have FT := refFault_any f w5 x1 x6 (okf.1.only X5)
            by_cases hE : faultP f.pf = 0
            · rw [if_neg (by simp [hE])] at hres2
              have ON := fun (w6 : World) (P6 : Only [] w5 w6) => one_any f w6 x1 x6 ((okf.1.only X5).only P6) okf.2 hE
              have hbl := bytesP_len (p := f.pf) x1 x6 hE
              rw [hE] at FT
              obtain ⟨L, hL⟩ : ∃ L, bytesP f.pf = L := ⟨_, rfl⟩
              rw [hL] at ON hbl hres2
              unfold FD.val at FT ON
              replace ON := hide ON
              replace hres2 := hide hres2
              replace okf := hide okf
              replace hf := hide hf
              replace hdrop := hide hdrop
              clear hc hL hrs
              go_wp2_with fail
              rw [← hw5]
              replace hw5 := hide hw5
              go_call FT as e w6 ⟨rfl, P6⟩
              clear FT c0 c1 c2 c3
              have K6 := K5.only P6 (by simp)
              have d0 : w6.cell? ⟨wq.heap.size, 0, none⟩ = some (.int .i64 f.kind) := K6.cell 0
              have d1 : w6.cell? ⟨wq.heap.size, 1, none⟩ = some (.int .u32 f.n) := K6.cell 1
              have d2 : w6.cell? ⟨wq.heap.size, 2, none⟩ = some (.slice f.tA f.text.length f.tc) := K6.cell 2
              have d3 : w6.cell? ⟨wq.heap.size, 3, none⟩ = some (.slice f.lA f.list.length f.lc) := K6.cell 3
              go_wp2_with fail
              go_call (ON.out w6 P6) as e w7 ⟨P7, v7, rfl, V7⟩
              obtain ⟨A7, k7, rfl, R7, q7, m7, a7⟩ := V7.rd
              have X7 : Only [] wq w7 := (X5.trans P6 (by simp)).trans P7 (by simp)
              have VV : OwnB w7 wo.heap.size v acc := V.far X7 (fun x hx => by simp at hx)
              have z7 := X7.size
              go_wp2_with (at_builtin; go_must (refine wpList_app3 rfl (.tmp 37) (.tmp 39) rfl wo.heap.size v acc rfl VV A7 k7 L _ rfl rfl R7 (by omega) (by omega) ?_; intro v8 w8 V8 P8 G8; replace V8 := V8.out; obtain ⟨A8, k8, rfl, R8, q8, m8, a8⟩ := V8.rd))
              all_goals have hw8 : Only [] wo w8 := (O2.trans X7 (by simp)).trans P8 (fun x hx => .inr (hob2 x (by simpa using hx)).1)
              · rename_i hbig
                have hfin : res = (6, []) := by rw [hres2.out, if_pos (by rw [List.length_append]; omega)]
                replace hfin := hide hfin
                go_ret2
                rw [hfin.out]
                exact writePost_none _ _ _ (O.trans hw8 (by simp))
              · rename_i hsm
                have hfin : res = writeFrom ((fs.drop (j + 1)).map FD.pf) (acc ++ L) := by rw [hres2.out, if_neg (by rw [List.length_append]; omega)]
                replace hfin := hide hfin
                have V9 := V8
                rw [List.length_append] at V9
                go_roundw
                case rel => exact ⟨j + 1, _, acc ++ L, by omega, by go_num, rfl, hfin, V9, by rw [List.length_append]; omega, hw8⟩
                case measure => simp [intOf]; omega
            · have hE2 : (faultP f.pf != 0) = true := by simpa using hE
              rw [if_pos hE] at hres2
              unfold FD.val at FT
              replace hres2 := hide hres2
              replace okf := hide okf
              replace hf := hide hf
              replace hdrop := hide hdrop
              clear hc hrs
              go_wp2_with fail
              rw [← hw5]
              replace hw5 := hide hw5
              go_call FT as e w6 ⟨rfl, P6⟩
              go_wp2_with fail
              go_ret2
              rw [hres2.out]
              exact writePost_none _ _ _ (((O.trans O2 (by simp)).trans X5 (by simp)).trans P6 (by simp))
          · obtain rfl : j = k := by omega
            have hres2 := hrs.out
            rw [List.drop_eq_nil_of_le (by have := hn.out; omega)] at hres2
            have hres3 : res = (0, acc) := hres2
            replace hres3 := hide hres3
            clear hres2 hrs
            go_wp2_with fail
            go_ret2
            rw [hres3.out]
            exact ⟨O.trans O2 (by simp), _, rfl, V.mono (by omega)⟩
      · have hr' : rowOk ks = false := by simpa using hr
        rw [hr'] at KN
        have hres1 : res = (2, []) := by
          rw [← hres.out]
          unfold writeP
          rw [hks2.out, if_neg hr]
        clear hr hr'
        replace hres1 := hide hres1
        go_wp2_with fail
        go_call KN as e w1 ⟨rfl, rfl⟩
        go_wp2_with fail
        go_ret2
        rw [hres1.out]
        exact writePost_none _ _ _ O
end Go.Proofs.YtpojfcpeibnohaaGreatDoor
