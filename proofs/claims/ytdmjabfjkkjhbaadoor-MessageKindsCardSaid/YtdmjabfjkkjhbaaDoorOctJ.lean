/- Layer 1: the reader: a number; for all bytes, no condition. -/
import Derived.Test.YtdmjabfjkkjhbaaDoorOctI
import Derived.Lib.EndianBits
import Derived.Laws.BitsAllLaws
namespace Go.Proofs.YtdmjabfjkkjhbaaDoor
set_option linter.all false
open Go.RowKit

/-- Four bytes, the highest first. -/
def be4 (l : List Int) : Int := l.getD 0 0 * 16777216 + l.getD 1 0 * 65536 + l.getD 2 0 * 256 + l.getD 3 0
def rNumber (l : List Int) : R := if l.length < 4 then rShort l else ⟨0, be4 l, [], [], l.drop 4⟩
theorem or_turn (a b : Int) (h1 : 0 ≤ a) (h2 : a < 4294967296) (h3 : 0 ≤ b) (h4 : b < 4294967296) : bits .or .u32 a b = bits .or .u32 b a := by
  rw [u32_or a b h1 h2 h3 h4, u32_or b a h3 h4 h1 h2, Nat.or_comm]

set_option maxRecDepth 100000 in
set_option maxHeartbeats 3200000 in
theorem number_any (w : World) (g : Nat) (A : Option Addr) (cap : Nat) (l : List Int) (h : RdrV w g A cap l 0) (hl : ∀ x ∈ l, 0 ≤ x ∧ x < 256) :
    Calls Tryd.prog 46 #[.pointer (some ⟨g, 0, none⟩)] w (RPost w g (rNumber l)) := by
  obtain ⟨w1, hw1⟩ : ∃ w1, w1 = w.alloc (.cells #[.int .i64 0, .int .u32 0, .slice none 0 0, .slice none 0 0] 35) := ⟨_, rfl⟩
  have P1 : Only [] w w1 := by rw [hw1]; exact (Only.refl _ _).alloc _
  have K : Blk w1 w.heap.size 35 [.int .i64 0, .int .u32 0, .slice none 0 0, .slice none 0 0] := by rw [hw1]; exact Blk.new w _ _
  have h1 := h.only P1
  have hgl := h.blk.lt
  by_cases hs : l.length < 4
  · have hr : rNumber l = rShort l := if_pos hs
    rw [hr]
    have T := take_short w1 g A cap l 4 h1 hs (by omega)
    clear hr hs
    go_enter Tryd.func46, Tryd.ntmps46
    go_wp2_with fail
    rw [← hw1]
    replace hw1 := hide hw1
    go_wp2_with fail
    go_call T as e w2 ⟨rfl, R2, P2⟩
    have K2 := K.only P2 (by simp; omega)
    have kn := nil_none
    have f0 := K2.frozen 0
    have f1 := K2.frozen 1
    have f2 := K2.frozen 2
    have f3 := K2.frozen 3
    have c0 : w2.cell? ⟨w.heap.size, 0, none⟩ = some (.int .i64 0) := K2.cell 0
    have c1 : w2.cell? ⟨w.heap.size, 1, none⟩ = some (.int .u32 0) := K2.cell 1
    have c2 : w2.cell? ⟨w.heap.size, 2, none⟩ = some (.slice none 0 0) := K2.cell 2
    have c3 : w2.cell? ⟨w.heap.size, 3, none⟩ = some (.slice none 0 0) := K2.cell 3
    go_wp2_with fail
    (try simp only [Exit.inBlock, Exit.then])
    refine ret_field (v0 := .int .i64 0) (v1 := .int .u32 0) (v2 := .slice none 0 0) (v3 := .slice none 0 0) rfl (by rfl) (by rfl) (W4.blk K2 _ _ _ _) (rpost_plain (((P1.mono (by simp)).trans P2 (by simp)).trans (W4.only w2 _ _ _ _ _) (by simp)) (R2.far4 (W4.only _ _ _ _ _ _) hgl))
  · have hr : rNumber l = ⟨0, be4 l, [], [], l.drop 4⟩ := if_neg hs
    rw [hr]
    have T := take_ok w1 g A cap l 4 h1 (by omega)
    have hx : ∀ k, k < 4 → ∃ x, l[k]? = some x ∧ l.getD k 0 = x ∧ 0 ≤ x ∧ x < 256 := by
      intro k hk
      refine ⟨l[k]'(by omega), List.getElem?_eq_getElem (by omega), ?_, hl _ (List.getElem_mem _)⟩
      simp [List.getD, List.getElem?_eq_getElem (show k < l.length by omega)]
    obtain ⟨x0, hx0, hd0, a0, b0⟩ := hx 0 (by omega)
    obtain ⟨x1, hx1, hd1, a1, b1⟩ := hx 1 (by omega)
    obtain ⟨x2, hx2, hd2, a2, b2⟩ := hx 2 (by omega)
    obtain ⟨x3, hx3, hd3, a3, b3⟩ := hx 3 (by omega)
    obtain ⟨y0, hy0⟩ : ∃ y, y = x0 * 16777216 := ⟨_, rfl⟩
    obtain ⟨y1, hy1⟩ : ∃ y, y = x1 * 65536 := ⟨_, rfl⟩
    obtain ⟨y2, hy2⟩ : ∃ y, y = x2 * 256 := ⟨_, rfl⟩
    obtain ⟨z1, hz1⟩ : ∃ y, y = y0 + y1 := ⟨_, rfl⟩
    obtain ⟨z2, hz2⟩ : ∃ y, y = z1 + y2 := ⟨_, rfl⟩
    obtain ⟨N, hN⟩ : ∃ y, y = z2 + x3 := ⟨_, rfl⟩
    have s0 : IntKind.u32.wrap (x0 * 16777216) = y0 := by rw [hy0]; exact u32_wrap_id _ (by omega) (by omega)
    have s1 : IntKind.u32.wrap (x1 * 65536) = y1 := by rw [hy1]; exact u32_wrap_id _ (by omega) (by omega)
    have s2 : IntKind.u32.wrap (x2 * 256) = y2 := by rw [hy2]; exact u32_wrap_id _ (by omega) (by omega)
    have e0 : IntKind.u32.wrap x0 = x0 := u32_wrap_id _ a0 (by omega)
    have e1 : IntKind.u32.wrap x1 = x1 := u32_wrap_id _ a1 (by omega)
    have e2 : IntKind.u32.wrap x2 = x2 := u32_wrap_id _ a2 (by omega)
    have e3 : IntKind.u32.wrap x3 = x3 := u32_wrap_id _ a3 (by omega)
    have o1 : bits .or .u32 y0 y1 = z1 := by rw [or_turn y0 y1 (by omega) (by omega) (by omega) (by omega), u32_or24 _ _ (by omega) (by omega) (by omega) (by omega) (by omega)]; omega
    have o2 : bits .or .u32 z1 y2 = z2 := by rw [or_turn z1 y2 (by omega) (by omega) (by omega) (by omega), u32_or16 _ _ (by omega) (by omega) (by omega) (by omega) (by omega)]; omega
    have o3 : bits .or .u32 z2 x3 = N := by rw [or_turn z2 x3 (by omega) (by omega) (by omega) (by omega), u32_or8 _ _ (by omega) (by omega) (by omega) (by omega) (by omega)]; omega
    have hbe : be4 l = N := by unfold be4; rw [hd0, hd1, hd2, hd3]; omega
    rw [hbe]
    have hh : ∀ w2, Rd w2 A (l.take 4) → ∀ b off, A = some ⟨b, off, none⟩ → w2.cell? ⟨b, off, none⟩ = some (.int .u8 x0) ∧ w2.cell? ⟨b, off + 1, none⟩ = some (.int .u8 x1) ∧ w2.cell? ⟨b, off + 2, none⟩ = some (.int .u8 x2) ∧ w2.cell? ⟨b, off + 3, none⟩ = some (.int .u8 x3) := by
      intro w2 D b off hA
      obtain ⟨b', off', e, _, hc⟩ := D (by simp; omega)
      rw [hA] at e
      injection e with e
      injection e with e1 e2
      subst e1; subst e2
      refine ⟨hc 0 x0 ?_, hc 1 x1 ?_, hc 2 x2 ?_, hc 3 x3 ?_⟩ <;> rw [List.getElem?_take] <;> simpa
    replace hh := hide hh
    clear hy0 hy1 hy2 hz1 hz2 hN hbe hd0 hd1 hd2 hd3 hx hx0 hx1 hx2 hx3 hr
    obtain ⟨b, off, rfl, _⟩ := h.rd (by omega)
    clear hs
    go_enter Tryd.func46, Tryd.ntmps46
    go_wp2_with fail
    rw [← hw1]
    replace hw1 := hide hw1
    go_wp2_with fail
    go_call T as e w2 ⟨rfl, P2, D2, A2, cap2, R2⟩
    have K2 := K.only P2 (by simp; omega)
    have kn := nil_some
    have hI : (fun w' : World => w'.cell? ⟨b, off, none⟩ = some (.int .u8 x0) ∧ w'.cell? ⟨b, off + 1, none⟩ = some (.int .u8 x1) ∧ w'.cell? ⟨b, off + 2, none⟩ = some (.int .u8 x2) ∧ w'.cell? ⟨b, off + 3, none⟩ = some (.int .u8 x3)) { w2 with drawn := w2.drawn + 1 } := hh.out w2 D2 b off rfl
    go_wp2_with fail
    refine wp_region_E (fun w' : World => w'.cell? ⟨b, off, none⟩ = some (.int .u8 x0) ∧ w'.cell? ⟨b, off + 1, none⟩ = some (.int .u8 x1) ∧ w'.cell? ⟨b, off + 2, none⟩ = some (.int .u8 x2) ∧ w'.cell? ⟨b, off + 3, none⟩ = some (.int .u8 x3)) [23] (by kernel_rfl) ?_
    refine wpAnyE_take 0 (v := (.slice (some ⟨b, off, none⟩) 4 cap)) rfl (by kernel_rfl) (fun _ _ _ h => h) hI (fun w' hw' => Or.inl ⟨by rfl, Or.inl (by obtain ⟨i0, i1, i2, i3⟩ := hw'; go_simp)⟩) ?_
    refine wpAnyE_take 1 (v := (.pointer (some ⟨b, off, none⟩))) rfl (by kernel_rfl) (fun _ _ _ h => h) hI (fun w' hw' => Or.inl ⟨by rfl, Or.inl (by obtain ⟨i0, i1, i2, i3⟩ := hw'; go_simp)⟩) ?_
    refine wpAnyE_take 2 (v := (.int .u8 x0)) rfl (by kernel_rfl) (fun _ _ _ h => h) hI (fun w' hw' => Or.inl ⟨by rfl, Or.inl (by obtain ⟨i0, i1, i2, i3⟩ := hw'; go_simp)⟩) ?_
    refine wpAnyE_take 3 (v := (.int .u32 x0)) rfl (by kernel_rfl) (fun _ _ _ h => h) hI (fun w' hw' => Or.inl ⟨by rfl, Or.inl (by obtain ⟨i0, i1, i2, i3⟩ := hw'; go_simp)⟩) ?_
    refine wpAnyE_take 4 (v := (.int .u32 y0)) rfl (by kernel_rfl) (fun _ _ _ h => h) hI (fun w' hw' => Or.inl ⟨by rfl, Or.inl (by obtain ⟨i0, i1, i2, i3⟩ := hw'; go_simp)⟩) ?_
    refine wpAnyE_take 5 (v := (.slice (some ⟨b, off, none⟩) 4 cap)) rfl (by kernel_rfl) (fun _ _ _ h => h) hI (fun w' hw' => Or.inl ⟨by rfl, Or.inl (by obtain ⟨i0, i1, i2, i3⟩ := hw'; go_simp)⟩) ?_
    refine wpAnyE_take 6 (v := (.pointer (some ⟨b, off + 1, none⟩))) rfl (by kernel_rfl) (fun _ _ _ h => h) hI (fun w' hw' => Or.inl ⟨by rfl, Or.inl (by obtain ⟨i0, i1, i2, i3⟩ := hw'; go_simp)⟩) ?_
    refine wpAnyE_take 7 (v := (.int .u8 x1)) rfl (by kernel_rfl) (fun _ _ _ h => h) hI (fun w' hw' => Or.inl ⟨by rfl, Or.inl (by obtain ⟨i0, i1, i2, i3⟩ := hw'; go_simp)⟩) ?_
    refine wpAnyE_take 8 (v := (.int .u32 x1)) rfl (by kernel_rfl) (fun _ _ _ h => h) hI (fun w' hw' => Or.inl ⟨by rfl, Or.inl (by obtain ⟨i0, i1, i2, i3⟩ := hw'; go_simp)⟩) ?_
    refine wpAnyE_take 9 (v := (.int .u32 y1)) rfl (by kernel_rfl) (fun _ _ _ h => h) hI (fun w' hw' => Or.inl ⟨by rfl, Or.inl (by obtain ⟨i0, i1, i2, i3⟩ := hw'; go_simp)⟩) ?_
    refine wpAnyE_take 10 (v := (.int .u32 z1)) rfl (by kernel_rfl) (fun _ _ _ h => h) hI (fun w' hw' => Or.inl ⟨by rfl, Or.inl (by obtain ⟨i0, i1, i2, i3⟩ := hw'; go_simp)⟩) ?_
    refine wpAnyE_take 11 (v := (.slice (some ⟨b, off, none⟩) 4 cap)) rfl (by kernel_rfl) (fun _ _ _ h => h) hI (fun w' hw' => Or.inl ⟨by rfl, Or.inl (by obtain ⟨i0, i1, i2, i3⟩ := hw'; go_simp)⟩) ?_
    refine wpAnyE_take 12 (v := (.pointer (some ⟨b, off + 2, none⟩))) rfl (by kernel_rfl) (fun _ _ _ h => h) hI (fun w' hw' => Or.inl ⟨by rfl, Or.inl (by obtain ⟨i0, i1, i2, i3⟩ := hw'; go_simp)⟩) ?_
    refine wpAnyE_take 13 (v := (.int .u8 x2)) rfl (by kernel_rfl) (fun _ _ _ h => h) hI (fun w' hw' => Or.inl ⟨by rfl, Or.inl (by obtain ⟨i0, i1, i2, i3⟩ := hw'; go_simp)⟩) ?_
    refine wpAnyE_take 14 (v := (.int .u32 x2)) rfl (by kernel_rfl) (fun _ _ _ h => h) hI (fun w' hw' => Or.inl ⟨by rfl, Or.inl (by obtain ⟨i0, i1, i2, i3⟩ := hw'; go_simp)⟩) ?_
    refine wpAnyE_take 15 (v := (.int .u32 y2)) rfl (by kernel_rfl) (fun _ _ _ h => h) hI (fun w' hw' => Or.inl ⟨by rfl, Or.inl (by obtain ⟨i0, i1, i2, i3⟩ := hw'; go_simp)⟩) ?_
    refine wpAnyE_take 16 (v := (.int .u32 z2)) rfl (by kernel_rfl) (fun _ _ _ h => h) hI (fun w' hw' => Or.inl ⟨by rfl, Or.inl (by obtain ⟨i0, i1, i2, i3⟩ := hw'; go_simp)⟩) ?_
    refine wpAnyE_take 17 (v := (.slice (some ⟨b, off, none⟩) 4 cap)) rfl (by kernel_rfl) (fun _ _ _ h => h) hI (fun w' hw' => Or.inl ⟨by rfl, Or.inl (by obtain ⟨i0, i1, i2, i3⟩ := hw'; go_simp)⟩) ?_
    refine wpAnyE_take 18 (v := (.pointer (some ⟨b, off + 3, none⟩))) rfl (by kernel_rfl) (fun _ _ _ h => h) hI (fun w' hw' => Or.inl ⟨by rfl, Or.inl (by obtain ⟨i0, i1, i2, i3⟩ := hw'; go_simp)⟩) ?_
    refine wpAnyE_take 19 (v := (.int .u8 x3)) rfl (by kernel_rfl) (fun _ _ _ h => h) hI (fun w' hw' => Or.inl ⟨by rfl, Or.inl (by obtain ⟨i0, i1, i2, i3⟩ := hw'; go_simp)⟩) ?_
    refine wpAnyE_take 20 (v := (.int .u32 x3)) rfl (by kernel_rfl) (fun _ _ _ h => h) hI (fun w' hw' => Or.inl ⟨by rfl, Or.inl (by obtain ⟨i0, i1, i2, i3⟩ := hw'; go_simp)⟩) ?_
    refine wpAnyE_take 21 (v := (.int .u32 N)) rfl (by kernel_rfl) (fun _ _ _ h => h) hI (fun w' hw' => Or.inl ⟨by rfl, Or.inl (by obtain ⟨i0, i1, i2, i3⟩ := hw'; go_simp)⟩) ?_
    refine wpAnyE_take 22 (v := (.agg #[.int .i64 0, .int .u32 N, .slice none 0 0, .slice none 0 0])) rfl (by kernel_rfl) (fun _ _ _ h => h) hI (fun w' hw' => Or.inl ⟨by rfl, Or.inl (by obtain ⟨i0, i1, i2, i3⟩ := hw'; go_simp)⟩) ?_
    refine wpAnyE_tail 23 [] [23] rfl (by kernel_rfl) (by decide) hI ?_
    simp only [List.drop_succ_cons, List.drop_zero]
    refine wpListI_zero ?_
    have f0 := K2.frozen 0
    have f1 := K2.frozen 1
    have f2 := K2.frozen 2
    have f3 := K2.frozen 3
    have c0 : w2.cell? ⟨w.heap.size, 0, none⟩ = some (.int .i64 0) := K2.cell 0
    have c1 : w2.cell? ⟨w.heap.size, 1, none⟩ = some (.int .u32 0) := K2.cell 1
    have c2 : w2.cell? ⟨w.heap.size, 2, none⟩ = some (.slice none 0 0) := K2.cell 2
    have c3 : w2.cell? ⟨w.heap.size, 3, none⟩ = some (.slice none 0 0) := K2.cell 3
    go_wp2
    (try simp only [Exit.inBlock, Exit.then])
    refine ret_field (v0 := .int .i64 0) (v1 := .int .u32 N) (v2 := .slice none 0 0) (v3 := .slice none 0 0) rfl (by rfl) (by rfl) (W4.blk K2 _ _ _ _).drew (rpost_plain (((P1.mono (by simp)).trans P2 (by simp)).trans (W4.only w2 _ _ _ _ _) (by simp)).drew ((R2.far4 (W4.only _ _ _ _ _ _) hgl).only (Only.refl _ _).drew))
end Go.Proofs.YtdmjabfjkkjhbaaDoor
