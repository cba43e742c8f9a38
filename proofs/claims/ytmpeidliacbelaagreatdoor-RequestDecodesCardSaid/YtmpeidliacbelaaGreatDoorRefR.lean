/- The document's answer for layer 1: take; no condition but the bytes' number · The document's answer for layer 1: take of a number, a text, names; no condition but the bytes' number · The document's answer for layer 1: take of a text; no condition but the bytes' number · The document's answer for layer 1: take of names; take; no condition but the bytes' number. -/
import Derived.Test.YtmpeidliacbelaaGreatDoorRefN
import Derived.Test.YtmpeidliacbelaaGreatDoorRefB
import Derived.Test.YtmpeidliacbelaaGreatDoorOctP
namespace Go.Proofs.YtmpeidliacbelaaGreatDoor
set_option linter.all false
open Go.RowKit

theorem results_take {fn : Func} {p t u : Tmp} (h : fn.results = #[.cell p 61, .tmp t, .tmp u]) (tmps : Array Value) (w : World) (g : Nat) (cs : Array Value) (hs : cs.size = 4)
    (hp : tmps.getD p undef = .pointer (some ⟨g, 0, none⟩)) (hg : w.heap[g]? = some (.cells cs 61 (0, 0))) :
    (results fn tmps).run Tryz.prog w = .ok (.tuple #[.agg cs, tmps.getD t undef, tmps.getD u undef]) w := by
  have hp' : tmps[p]?.getD undef = .pointer (some ⟨g, 0, none⟩) := by simpa using hp
  simp [results, h, hp', asAddr, run_loadVar_row w g 61 61 cs (0, 0) _ hg Tryz.underlying61 rfl (by rw [hs]; kernel_rfl)]
theorem ret_take {fn : Func} {p t u : Tmp} {R : Ending → World → Prop} {a : Act} {w : World} {g : Nat} {v0 v1 v2 v3 : Value} (h : fn.results = #[.cell p 61, .tmp t, .tmp u]) (hp : a.tmps.getD p undef = .pointer (some ⟨g, 0, none⟩)) (hd : a.defers = [])
    (hg : Blk w g 61 [v0, v1, v2, v3]) (hR : R (.returned (.tuple #[.agg #[v0, v1, v2, v3], a.tmps.getD t undef, a.tmps.getD u undef])) w) : bodyPost Tryz.prog fn R .ret a w :=
  bodyPost_ret (results_take h _ w g #[v0, v1, v2, v3] rfl hp hg) hd hR

theorem mine_text {w8 w' : World} {B B' k8 : Nat} {A8 : Option Addr} {kd nn : Int} {l : List Int} {L : List Nat} (V8 : OwnB w8 B (.slice A8 l.length k8) l) (Y : Only L w8 w') (hL : ∀ x ∈ L, x < B) (hB : B' ≤ B) : FD.mine w' ⟨kd, nn, A8, k8, l, none, 0, []⟩ B' := by
  obtain ⟨A, k, e, R8, q8, m8, a8⟩ := V8.rd
  injection e with e1 _ e3
  subst e1; subst e3
  have S8 := OwnB.soft V8
  refine ⟨⟨RdG.onlyL (mk := .int .u8) R8 Y (fun a ha _ hm => by have h1 := a8 a ha; have h2 := hL _ hm; omega), RdG.nil, q8, m8, by simp, by simp, by simp⟩, ⟨fun a ha => by have := a8 a ha; omega, fun a ha => by simp at ha⟩, fun a ha i hi => ?_⟩
  have hlt := RdG.lt (mk := .int .u8) R8 (show 0 < l.length by have : i < l.length := hi; omega) a ha
  refine (World.frozen?_of_block (w := w8) ?_).trans (S8 a ha i hi)
  rw [block_add]
  exact Y.block _ hlt (fun hm => by have h1 := a8 a ha; have h2 := hL _ hm; omega)
theorem mine_list {w8 w' : World} {B B' k8 : Nat} {A8 : Option Addr} {kd nn : Int} {ls : List ByteArray} {L : List Nat} (V8 : OwnS w8 B (.slice A8 ls.length k8) ls) (Y : Only L w8 w') (hL : ∀ x ∈ L, x < B) (hB : B' ≤ B) (hs : ∀ s ∈ ls, s.size ≤ maxLen) : FD.mine w' ⟨kd, nn, none, 0, [], A8, k8, ls⟩ B' := by
  obtain ⟨A, k, e, R8, q8, m8, a8⟩ := V8.rd
  injection e with e1 _ e3
  subst e1; subst e3
  exact ⟨⟨RdG.nil, RdG.onlyL (mk := .string) R8 Y (fun a ha _ hm => by have h1 := a8 a ha; have h2 := hL _ hm; omega), by simp, by simp, q8, m8, hs⟩, ⟨fun a ha => by simp at ha, fun a ha => by have := a8 a ha; omega⟩, fun a ha => by simp at ha⟩

/-- What take hands on. -/
def TakePost (w : World) (k : Int) (l : List Int) (r : R) : Ending → World → Prop := fun E w' =>
  Only [] w w' ∧ ∃ (f : FD) (nn : Nat), E = .returned (.tuple #[f.val, .int .i64 nn, .int .i64 r.e]) ∧ (r.e = 0 → f.pf = ⟨k, r.n, r.text, r.list⟩ ∧ nn ≤ l.length ∧ l.drop nn = r.rest ∧ FD.mine w' f w.heap.size)

set_option maxRecDepth 100000 in
set_option maxHeartbeats 3200000 in
theorem take_octet (k : Int) (hk : k = 1 ∨ k = 2) (A : Option Addr) (l : List Int) (c : Nat) (w : World) (h : Rd w A l) (hl : ∀ x ∈ l, 0 ≤ x ∧ x < 256) (hlen : l.length ≤ 140737488355000) :
    Calls Tryz.prog 52 #[.int .i64 k, .slice A l.length c] w (TakePost w k l (rKind k.toNat l)) := by
  cases l with
  | nil =>
    rcases hk with rfl | rfl
    · go_enter Tryz.func52, Tryz.ntmps52
      go_wp2_with fail
      (try simp only [Exit.inBlock, Exit.then])
      refine ret_take (g := w.heap.size) (v0 := .int .i64 1) (v1 := .int .u32 0) (v2 := .slice none 0 0) (v3 := .slice none 0 0) rfl (by rfl) (by rfl) (by exact (Blk.new w 61 [.int .i64 1, .int .u32 0, .slice none 0 0, .slice none 0 0]).alloc _) ?_
      exact ⟨((Only.refl _ _).alloc _).alloc _, ⟨1, 0, none, 0, [], none, 0, []⟩, 0, rfl, fun h => by cases h⟩
    · go_enter Tryz.func52, Tryz.ntmps52
      go_wp2_with fail
      (try simp only [Exit.inBlock, Exit.then])
      refine ret_take (g := w.heap.size) (v0 := .int .i64 2) (v1 := .int .u32 0) (v2 := .slice none 0 0) (v3 := .slice none 0 0) rfl (by rfl) (by rfl) (by exact (Blk.new w 61 [.int .i64 2, .int .u32 0, .slice none 0 0, .slice none 0 0]).alloc _) ?_
      exact ⟨((Only.refl _ _).alloc _).alloc _, ⟨2, 0, none, 0, [], none, 0, []⟩, 0, rfl, fun h => by cases h⟩
  | cons x t =>
    obtain ⟨b, off, y, rfl, hb, hy, cx⟩ := RdG.at (mk := .int .u8) h 0 (by simp)
    simp at hy
    subst hy
    rw [Nat.add_zero] at cx
    have hx := hl x (by simp)
    obtain ⟨n, hn⟩ : ∃ n, (x :: t).length = n := ⟨_, rfl⟩
    have hn1 : 1 ≤ n := by rw [← hn]; simp
    rw [hn] at hlen ⊢
    have i1 : ¬ (n : Int) < 1 := by omega
    have i2 : (0 : Int) < (n : Int) := by omega
    replace hn := hide hn
    rcases hk with rfl | rfl
    · go_enter Tryz.func52, Tryz.ntmps52
      go_wp2_with fail
      (try simp only [Exit.inBlock, Exit.then])
      refine ret_take (g := w.heap.size) (v0 := .int .i64 1) (v1 := .int .u32 x) (v2 := .slice none 0 0) (v3 := .slice none 0 0) rfl (by rfl) (by rfl) (by exact (Blk.new w 61 [.int .i64 1, .int .u32 x, .slice none 0 0, .slice none 0 0]).alloc _) ?_
      exact ⟨((Only.refl _ _).alloc _).alloc _, ⟨1, x, none, 0, [], none, 0, []⟩, 1, rfl, fun _ => ⟨rfl, by have := hn.out; omega, rfl, FD.mine.plain _ _ _ _⟩⟩
    · go_enter Tryz.func52, Tryz.ntmps52
      go_wp2_with fail
      (try simp only [Exit.inBlock, Exit.then])
      refine ret_take (g := w.heap.size) (v0 := .int .i64 2) (v1 := .int .u32 (min x 1)) (v2 := .slice none 0 0) (v3 := .slice none 0 0) rfl (by rfl) (by rfl) (by exact (Blk.new w 61 [.int .i64 2, .int .u32 (min x 1), .slice none 0 0, .slice none 0 0]).alloc _) ?_
      exact ⟨((Only.refl _ _).alloc _).alloc _, ⟨2, min x 1, none, 0, [], none, 0, []⟩, 1, rfl, fun _ => ⟨rfl, by have := hn.out; omega, rfl, FD.mine.plain _ _ _ _⟩⟩

set_option maxRecDepth 100000 in
set_option maxHeartbeats 3200000 in
theorem take_rest (A : Option Addr) (l : List Int) (c : Nat) (w : World) (h : Rd w A l) (hlen : l.length ≤ 140737488355000) :
    Calls Tryz.prog 52 #[.int .i64 6, .slice A l.length c] w (TakePost w 6 l (rKind 6 l)) := by
  have e6 : rKind 6 l = ⟨over l.length 33792 6, 0, l, [], []⟩ := rfl
  rw [e6]
  by_cases hbig : 33792 < l.length
  · rw [over_pos (show (33792 : Int) < (l.length : Int) by omega)]
    obtain ⟨n, hn⟩ : ∃ n, l.length = n := ⟨_, rfl⟩
    rw [hn] at hbig ⊢
    have i1 : (33792 : Int) < (n : Int) := by omega
    go_enter Tryz.func52, Tryz.ntmps52
    go_wp2_with fail
    (try simp only [Exit.inBlock, Exit.then])
    refine ret_take (g := w.heap.size) (v0 := .int .i64 6) (v1 := .int .u32 0) (v2 := .slice none 0 0) (v3 := .slice none 0 0) rfl (by rfl) (by rfl) (by exact (Blk.new w 61 [.int .i64 6, .int .u32 0, .slice none 0 0, .slice none 0 0]).alloc _) ?_
    exact ⟨((Only.refl _ _).alloc _).alloc _, ⟨6, 0, none, 0, [], none, 0, []⟩, 0, rfl, fun h => by cases h⟩
  · rw [over_neg (show ¬ (33792 : Int) < (l.length : Int) by omega)]
    have i1 : ¬ (33792 : Int) < (l.length : Int) := by omega
    have X2 : Only [] w ((w.alloc (.cells #[.int .i64 0, .int .u32 0, .slice none 0 0, .slice none 0 0] 61)).alloc (.cells #[.int .i64 6, .int .u32 0, .slice none 0 0, .slice none 0 0] 61)) := ((Only.refl _ _).alloc _).alloc _
    have hs2 : ((w.alloc (.cells #[.int .i64 0, .int .u32 0, .slice none 0 0, .slice none 0 0] 61)).alloc (.cells #[.int .i64 6, .int .u32 0, .slice none 0 0, .slice none 0 0] 61)).heap.size = w.heap.size + 2 := by simp
    have K0 := ((Blk.new w 61 [.int .i64 0, .int .u32 0, .slice none 0 0, .slice none 0 0]).alloc (.cells #[.int .i64 6, .int .u32 0, .slice none 0 0, .slice none 0 0] 61))
    have K1 := Blk.new (w.alloc (.cells #[.int .i64 0, .int .u32 0, .slice none 0 0, .slice none 0 0] 61)) 61 [.int .i64 6, .int .u32 0, .slice none 0 0, .slice none 0 0]
    rw [show (w.alloc (.cells #[.int .i64 0, .int .u32 0, .slice none 0 0, .slice none 0 0] 61)).heap.size = w.heap.size + 1 by simp] at K1
    obtain ⟨wb, hwb⟩ : ∃ wb, wb = (w.alloc (.cells #[.int .i64 0, .int .u32 0, .slice none 0 0, .slice none 0 0] 61)).alloc (.cells #[.int .i64 6, .int .u32 0, .slice none 0 0, .slice none 0 0] 61) := ⟨_, rfl⟩
    have V6 : OwnB (wb.alloc (.cells #[] 5)) (w.heap.size + 2) (.slice (some ⟨w.heap.size + 2, 0, none⟩) 0 0) [] := by
      have := ownB_lit wb (w.heap.size + 2) [] (by rw [hwb, hs2]; exact Nat.le_refl _) (by simp)
      rw [show wb.heap.size = w.heap.size + 2 by rw [hwb, hs2]] at this
      exact this
    have K0' : Blk (wb.alloc (.cells #[] 5)) w.heap.size 61 [.int .i64 0, .int .u32 0, .slice none 0 0, .slice none 0 0] := by rw [hwb]; exact Blk.alloc K0 _
    have K1' : Blk (wb.alloc (.cells #[] 5)) (w.heap.size + 1) 61 [.int .i64 6, .int .u32 0, .slice none 0 0, .slice none 0 0] := by rw [hwb]; exact Blk.alloc K1 _
    have X3 : Only [] w (wb.alloc (.cells #[] 5)) := by rw [hwb]; exact X2.alloc _
    have R6 : Rd (wb.alloc (.cells #[] 5)) A l := h.only X3
    rw [hwb] at V6 K0' K1' X3 R6
    clear hwb K0 K1 X2 hs2
    go_enter Tryz.func52, Tryz.ntmps52
    go_wp2_with (at_builtin; go_must (refine wpList_app3 rfl (.tmp 39) (.tmp 40) rfl (w.heap.size + 2) (.slice (some ⟨w.heap.size + 2, 0, none⟩) 0 0) [] rfl V6 A c l _ rfl rfl R6 (by simp; omega) (by simp) ?_; intro v8 w8 V8 P8 G8; replace V8 := V8.out; rw [List.nil_append] at V8; obtain ⟨A8, k8, rfl, R8, q8, m8, a8⟩ := V8.rd; have K0 := K0'.only P8 (by simp [Value.ownBlock]); have K1 := K1'.only P8 (by simp [Value.ownBlock]); have g0 : w8.cell? ⟨w.heap.size, 0, none⟩ = some (.int .i64 0) := K0.cell 0; have g1 : w8.cell? ⟨w.heap.size, 1, none⟩ = some (.int .u32 0) := K0.cell 1; have g2 : w8.cell? ⟨w.heap.size, 2, none⟩ = some (.slice none 0 0) := K0.cell 2; have g3 : w8.cell? ⟨w.heap.size, 3, none⟩ = some (.slice none 0 0) := K0.cell 3; have f0 := K0.frozen 0; have f1 := K0.frozen 1; have f2 := K0.frozen 2; have f3 := K0.frozen 3; have d0 : w8.cell? ⟨w.heap.size + 1, 0, none⟩ = some (.int .i64 6) := K1.cell 0; have d1 : w8.cell? ⟨w.heap.size + 1, 1, none⟩ = some (.int .u32 0) := K1.cell 1; have d2 : w8.cell? ⟨w.heap.size + 1, 2, none⟩ = some (.slice none 0 0) := K1.cell 2; have d3 : w8.cell? ⟨w.heap.size + 1, 3, none⟩ = some (.slice none 0 0) := K1.cell 3; have e2 := K1.frozen 2))
    (try simp only [Exit.inBlock, Exit.then])
    have Y1 : Only [w.heap.size + 1] w8 (w8.setCell ⟨w.heap.size + 1, 2, none⟩ (.slice A8 l.length k8)) := (Only.refl _ _).setCell (p := ⟨w.heap.size + 1, 2, none⟩) (.inl (by simp)) _
    have Y4 := W4.only (w8.setCell ⟨w.heap.size + 1, 2, none⟩ (.slice A8 l.length k8)) w.heap.size (.int .i64 6) (.int .u32 0) (.slice A8 l.length k8) (.slice none 0 0)
    have B4 := W4.blk (K0.only Y1 (by simp)) (.int .i64 6) (.int .u32 0) (.slice A8 l.length k8) (.slice none 0 0)
    have Y : Only [w.heap.size, w.heap.size + 1] w8 (W4 (w8.setCell ⟨w.heap.size + 1, 2, none⟩ (.slice A8 l.length k8)) w.heap.size (.int .i64 6) (.int .u32 0) (.slice A8 l.length k8) (.slice none 0 0)) := (Y1.mono (by simp)).trans Y4 (fun x hx => .inl (by simp at hx; simp [hx]))
    refine ret_take (g := w.heap.size) (v0 := .int .i64 6) (v1 := .int .u32 0) (v2 := .slice A8 l.length k8) (v3 := .slice none 0 0) rfl (by rfl) (by rfl) B4 ?_
    exact ⟨(X3.trans P8 (fun x hx => .inr (by simp [Value.ownBlock] at hx; omega))).trans Y (fun x hx => .inr (by simp at hx; omega)), ⟨6, 0, A8, k8, l, none, 0, []⟩, l.length, rfl, fun _ => ⟨rfl, Nat.le_refl _, by simp, mine_text V8 Y (fun x hx => by simp at hx; omega) (by omega)⟩⟩

set_option maxRecDepth 100000 in
set_option maxHeartbeats 3200000 in
theorem refTake_short (k : Int) (hk : k = 3 ∨ k = 4 ∨ k = 5) (A : Option Addr) (l : List Int) (c : Nat) (w : World) (h4 : l.length < 4) :
    Calls Tryz.prog 52 #[.int .i64 k, .slice A l.length c] w (TakePost w k l (rKind k.toNat l)) := by
  have e3 : (rKind k.toNat l).e = 3 := by
    rcases hk with rfl | rfl | rfl
    · show (rNumber l).e = 3; unfold rNumber; rw [if_pos h4]; rfl
    · show (rText l).e = 3; unfold rText; rw [if_pos h4]; rfl
    · show (rNames l).e = 3
      have : rText l = rShort l := by unfold rText; rw [if_pos h4]
      unfold rNames; rw [this]; rfl
  obtain ⟨r, hr⟩ : ∃ r, rKind k.toNat l = r := ⟨_, rfl⟩
  rw [hr] at e3 ⊢
  obtain ⟨n, hn⟩ : ∃ n, l.length = n := ⟨_, rfl⟩
  rw [hn] at h4 ⊢
  have i1 : (n : Int) < 4 := by omega
  replace hr := hide hr
  replace e3 := hide e3
  rcases hk with rfl | rfl | rfl
  · go_enter Tryz.func52, Tryz.ntmps52
    go_wp2_with fail
    (try simp only [Exit.inBlock, Exit.then])
    refine ret_take (g := w.heap.size) (v0 := .int .i64 3) (v1 := .int .u32 0) (v2 := .slice none 0 0) (v3 := .slice none 0 0) rfl (by rfl) (by rfl) (by exact (Blk.new w 61 [.int .i64 3, .int .u32 0, .slice none 0 0, .slice none 0 0]).alloc _) ?_
    exact ⟨((Only.refl _ _).alloc _).alloc _, ⟨3, 0, none, 0, [], none, 0, []⟩, 0, by rw [e3.out]; rfl, fun h => by rw [e3.out] at h; cases h⟩
  · go_enter Tryz.func52, Tryz.ntmps52
    go_wp2_with fail
    (try simp only [Exit.inBlock, Exit.then])
    refine ret_take (g := w.heap.size) (v0 := .int .i64 4) (v1 := .int .u32 0) (v2 := .slice none 0 0) (v3 := .slice none 0 0) rfl (by rfl) (by rfl) (by exact (Blk.new w 61 [.int .i64 4, .int .u32 0, .slice none 0 0, .slice none 0 0]).alloc _) ?_
    exact ⟨((Only.refl _ _).alloc _).alloc _, ⟨4, 0, none, 0, [], none, 0, []⟩, 0, by rw [e3.out]; rfl, fun h => by rw [e3.out] at h; cases h⟩
  · go_enter Tryz.func52, Tryz.ntmps52
    go_wp2_with fail
    (try simp only [Exit.inBlock, Exit.then])
    refine ret_take (g := w.heap.size) (v0 := .int .i64 5) (v1 := .int .u32 0) (v2 := .slice none 0 0) (v3 := .slice none 0 0) rfl (by rfl) (by rfl) (by exact (Blk.new w 61 [.int .i64 5, .int .u32 0, .slice none 0 0, .slice none 0 0]).alloc _) ?_
    exact ⟨((Only.refl _ _).alloc _).alloc _, ⟨5, 0, none, 0, [], none, 0, []⟩, 0, by rw [e3.out]; rfl, fun h => by rw [e3.out] at h; cases h⟩
end Go.Proofs.YtmpeidliacbelaaGreatDoor

namespace Go.Proofs.YtmpeidliacbelaaGreatDoor
set_option linter.all false
open Go.RowKit

/-- A slice's part from the fourth byte on. -/
theorem part_four {w : World} {A : Option Addr} {l : List Int} (c L : Nat) (h : Rd w A l) (hT : 4 + L ≤ l.length) (hc : l.length ≤ c) :
    ∃ A9 c9, ((c = 4 ∧ A9 = A ∧ c9 = 0) ∨ (¬ c = 4 ∧ A9 = (A.map fun x => x.add 4) ∧ c9 = c - 4)) ∧ Rd w A9 ((l.drop 4).take L) := by
  by_cases hck : c = 4
  · refine ⟨A, 0, .inl ⟨hck, rfl, rfl⟩, ?_⟩
    obtain rfl : L = 0 := by omega
    rw [List.take_zero]
    exact RdG.nil (mk := .int .u8)
  · exact ⟨_, _, .inr ⟨hck, rfl, rfl⟩, RdG.take (mk := .int .u8) (RdG.drop (mk := .int .u8) h 4) L⟩
theorem map_four (A : Option Addr) : (A.map fun x => x.add 4) = A.map fun x => { block := x.block, off := x.off + 4 } := by
  congr 1
theorem rText_is (l : List Int) (h4 : 4 ≤ l.length) (h1 : be4 l ≤ 32768) (h2 : 4 + (be4 l).toNat ≤ l.length) : rText l = ⟨0, 0, (l.drop 4).take (be4 l).toNat, [], l.drop (4 + (be4 l).toNat)⟩ := by
  unfold rText
  rw [if_neg (by omega)]
  unfold rTextN
  rw [if_neg (by omega), if_neg (by rw [List.length_drop]; omega), List.drop_drop]
theorem rText_six (l : List Int) (h4 : 4 ≤ l.length) (h1 : 32768 < be4 l) : (rText l).e = 6 := by
  unfold rText
  rw [if_neg (by omega)]
  unfold rTextN
  rw [if_pos (by omega)]
theorem rText_three (l : List Int) (h4 : 4 ≤ l.length) (h1 : be4 l ≤ 32768) (h2 : l.length < 4 + (be4 l).toNat) : (rText l).e = 3 := by
  unfold rText
  rw [if_neg (by omega)]
  unfold rTextN
  rw [if_neg (by omega), if_pos (by rw [List.length_drop]; omega)]
theorem rNames_bad (l : List Int) (E : Int) (h : (rText l).e = E) (hE : E ≠ 0) : (rNames l).e = E := by
  unfold rNames rNamesT
  rw [if_pos (by rw [h]; exact hE), h]

set_option maxRecDepth 100000 in
set_option maxHeartbeats 3200000 in
theorem take_number (A : Option Addr) (l : List Int) (c : Nat) (w : World) (h : Rd w A l) (hl : ∀ x ∈ l, 0 ≤ x ∧ x < 256) (h4 : 4 ≤ l.length) :
    Calls Tryz.prog 52 #[.int .i64 3, .slice A l.length c] w (TakePost w 3 l (rKind 3 l)) := by
  obtain ⟨w1, hw1⟩ : ∃ w1, w1 = (w.alloc (.cells #[.int .i64 0, .int .u32 0, .slice none 0 0, .slice none 0 0] 61)).alloc (.cells #[.int .i64 3, .int .u32 0, .slice none 0 0, .slice none 0 0] 61) := ⟨_, rfl⟩
  have X1 : Only [] w w1 := by rw [hw1]; exact ((Only.refl _ _).alloc _).alloc _
  have hs1 : w1.heap.size = w.heap.size + 2 := by rw [hw1]; simp
  have KA : Blk w1 w.heap.size 61 [.int .i64 0, .int .u32 0, .slice none 0 0, .slice none 0 0] := by
    rw [hw1]
    exact (Blk.new w 61 [.int .i64 0, .int .u32 0, .slice none 0 0, .slice none 0 0]).alloc _
  have KB : Blk w1 (w.heap.size + 1) 61 [.int .i64 3, .int .u32 0, .slice none 0 0, .slice none 0 0] := by
    have := Blk.new (w.alloc (.cells #[.int .i64 0, .int .u32 0, .slice none 0 0, .slice none 0 0] 61)) 61 [.int .i64 3, .int .u32 0, .slice none 0 0, .slice none 0 0]
    rw [show (w.alloc (.cells #[.int .i64 0, .int .u32 0, .slice none 0 0, .slice none 0 0] 61)).heap.size = w.heap.size + 1 by simp] at this
    rw [hw1]
    exact this
  have NB := refNumber_any A l c w1 (h.only X1) h4 hl
  have hbe := be4_ok l hl
  obtain ⟨ln, hln⟩ : ∃ ln, l.length = ln := ⟨_, rfl⟩
  have i1 : ¬ (ln : Int) < 4 := by omega
  rw [show rKind 3 l = ⟨0, be4 l, [], [], l.drop 4⟩ by show rNumber l = _; unfold rNumber; rw [if_neg (by omega)]]
  obtain ⟨N, hN⟩ : ∃ N, be4 l = N := ⟨_, rfl⟩
  rw [hN] at NB hbe ⊢
  rw [hln] at NB ⊢
  go_enter Tryz.func52, Tryz.ntmps52
  go_wp2_with fail
  rw [← hw1]
  replace hw1 := hide hw1
  go_call NB as e w2 ⟨rfl, P2⟩
  have K0 := KA.only P2 (by simp)
  have K1 := KB.only P2 (by simp)
  have z2 := P2.size
  have g0 : w2.cell? ⟨w.heap.size, 0, none⟩ = some (.int .i64 0) := K0.cell 0
  have f0 := K0.frozen 0
  have g1 : w2.cell? ⟨w.heap.size, 1, none⟩ = some (.int .u32 0) := K0.cell 1
  have f1 := K0.frozen 1
  have g2 : w2.cell? ⟨w.heap.size, 2, none⟩ = some (.slice none 0 0) := K0.cell 2
  have f2 := K0.frozen 2
  have g3 : w2.cell? ⟨w.heap.size, 3, none⟩ = some (.slice none 0 0) := K0.cell 3
  have f3 := K0.frozen 3
  have d0 : w2.cell? ⟨w.heap.size + 1, 0, none⟩ = some (.int .i64 3) := K1.cell 0
  have e0 := K1.frozen 0
  have d1 : w2.cell? ⟨w.heap.size + 1, 1, none⟩ = some (.int .u32 0) := K1.cell 1
  have e1 := K1.frozen 1
  have d2 : w2.cell? ⟨w.heap.size + 1, 2, none⟩ = some (.slice none 0 0) := K1.cell 2
  have e2 := K1.frozen 2
  have d3 : w2.cell? ⟨w.heap.size + 1, 3, none⟩ = some (.slice none 0 0) := K1.cell 3
  have e3 := K1.frozen 3
  go_wp2_with fail
  (try simp only [Exit.inBlock, Exit.then])
  have Y1 : Only [w.heap.size + 1] w2 (w2.setCell ⟨w.heap.size + 1, 1, none⟩ (.int .u32 N)) := (Only.refl _ _).setCell (p := ⟨w.heap.size + 1, 1, none⟩) (.inl (by simp)) _
  have B4 := W4.blk (K0.only Y1 (by simp)) (.int .i64 3) (.int .u32 N) (.slice none 0 0) (.slice none 0 0)
  have Y4 := W4.only (w2.setCell ⟨w.heap.size + 1, 1, none⟩ (.int .u32 N)) w.heap.size (.int .i64 3) (.int .u32 N) (.slice none 0 0) (.slice none 0 0)
  refine ret_take (g := w.heap.size) (v0 := .int .i64 3) (v1 := .int .u32 N) (v2 := .slice none 0 0) (v3 := .slice none 0 0) rfl (by rfl) (by rfl) B4 ?_
  exact ⟨((X1.trans P2 (by simp)).trans Y1 (fun x hx => .inr (by simp at hx; omega))).trans Y4 (fun x hx => .inr (by simp at hx; omega)), ⟨3, N, none, 0, [], none, 0, []⟩, 4, rfl, fun _ => ⟨rfl, by omega, rfl, FD.mine.plain _ _ _ _⟩⟩
end Go.Proofs.YtmpeidliacbelaaGreatDoor

namespace Go.Proofs.YtmpeidliacbelaaGreatDoor
set_option linter.all false
open Go.RowKit

set_option maxRecDepth 100000 in
set_option maxHeartbeats 6400000 in
theorem refTake_text (A : Option Addr) (l : List Int) (c : Nat) (w : World) (h : Rd w A l) (hl : ∀ x ∈ l, 0 ≤ x ∧ x < 256) (h4 : 4 ≤ l.length) (hlc : l.length ≤ c) (hlm : c ≤ maxLen) :
    Calls Tryz.prog 52 #[.int .i64 4, .slice A l.length c] w (TakePost w 4 l (rKind 4 l)) := by
  unfold maxLen at hlm
  obtain ⟨w1, hw1⟩ : ∃ w1, w1 = (w.alloc (.cells #[.int .i64 0, .int .u32 0, .slice none 0 0, .slice none 0 0] 61)).alloc (.cells #[.int .i64 4, .int .u32 0, .slice none 0 0, .slice none 0 0] 61) := ⟨_, rfl⟩
  have X1 : Only [] w w1 := by rw [hw1]; exact ((Only.refl _ _).alloc _).alloc _
  have hs1 : w1.heap.size = w.heap.size + 2 := by rw [hw1]; simp
  have KA : Blk w1 w.heap.size 61 [.int .i64 0, .int .u32 0, .slice none 0 0, .slice none 0 0] := by
    rw [hw1]
    exact (Blk.new w 61 [.int .i64 0, .int .u32 0, .slice none 0 0, .slice none 0 0]).alloc _
  have KB : Blk w1 (w.heap.size + 1) 61 [.int .i64 4, .int .u32 0, .slice none 0 0, .slice none 0 0] := by
    have := Blk.new (w.alloc (.cells #[.int .i64 0, .int .u32 0, .slice none 0 0, .slice none 0 0] 61)) 61 [.int .i64 4, .int .u32 0, .slice none 0 0, .slice none 0 0]
    rw [show (w.alloc (.cells #[.int .i64 0, .int .u32 0, .slice none 0 0, .slice none 0 0] 61)).heap.size = w.heap.size + 1 by simp] at this
    rw [hw1]
    exact this
  have NB := refNumber_any A l c w1 (h.only X1) h4 hl
  have hbe := be4_ok l hl
  obtain ⟨ln, hln⟩ : ∃ ln, l.length = ln := ⟨_, rfl⟩
  have i1 : ¬ (ln : Int) < 4 := by omega
  rw [show rKind 4 l = rText l from rfl]
  have t6 := rText_six l h4
  have t3 := rText_three l h4
  have t0 := rText_is l h4
  obtain ⟨N, hN⟩ := Int.eq_ofNat_of_zero_le hbe.1
  rw [hN, Int.toNat_natCast] at t3 t0
  rw [hN] at NB hbe t6
  have hbe2 := hbe.2
  rw [hln] at NB t3 t0 hlc
  obtain ⟨r, hr⟩ : ∃ r, rText l = r := ⟨_, rfl⟩
  rw [hr, hln]
  replace hN := hide hN
  by_cases h6 : (32768 : Int) < (N : Int)
  · have hre : r.e = 6 := by rw [← hr]; exact t6 h6
    replace hre := hide hre
    replace hr := hide hr
    replace hln := hide hln
    clear t6 t3 t0
    go_enter Tryz.func52, Tryz.ntmps52
    go_wp2_with fail
    rw [← hw1]
    replace hw1 := hide hw1
    go_call NB as e w2 ⟨rfl, P2⟩
    have K0 := KA.only P2 (by simp)
    have K1 := KB.only P2 (by simp)
    have g0 : w2.cell? ⟨w.heap.size, 0, none⟩ = some (.int .i64 0) := K0.cell 0
    have f0 := K0.frozen 0
    have g1 : w2.cell? ⟨w.heap.size, 1, none⟩ = some (.int .u32 0) := K0.cell 1
    have f1 := K0.frozen 1
    have g2 : w2.cell? ⟨w.heap.size, 2, none⟩ = some (.slice none 0 0) := K0.cell 2
    have f2 := K0.frozen 2
    have g3 : w2.cell? ⟨w.heap.size, 3, none⟩ = some (.slice none 0 0) := K0.cell 3
    have f3 := K0.frozen 3
    have d0 : w2.cell? ⟨w.heap.size + 1, 0, none⟩ = some (.int .i64 4) := K1.cell 0
    have e0 := K1.frozen 0
    have d1 : w2.cell? ⟨w.heap.size + 1, 1, none⟩ = some (.int .u32 0) := K1.cell 1
    have e1 := K1.frozen 1
    have d2 : w2.cell? ⟨w.heap.size + 1, 2, none⟩ = some (.slice none 0 0) := K1.cell 2
    have e2 := K1.frozen 2
    have d3 : w2.cell? ⟨w.heap.size + 1, 3, none⟩ = some (.slice none 0 0) := K1.cell 3
    have e3 := K1.frozen 3
    go_wp2_with fail
    (try simp only [Exit.inBlock, Exit.then])
    refine ret_take (g := w.heap.size) (v0 := .int .i64 4) (v1 := .int .u32 0) (v2 := .slice none 0 0) (v3 := .slice none 0 0) rfl (by rfl) (by rfl) (W4.blk K0 _ _ _ _) ?_
    exact ⟨(X1.trans P2 (by simp)).trans (W4.only _ _ _ _ _ _) (fun x hx => .inr (by simp at hx; omega)), ⟨4, 0, none, 0, [], none, 0, []⟩, 0, by rw [hre.out]; rfl, fun h => by rw [hre.out] at h; cases h⟩
  have h6' : (N : Int) ≤ 32768 := by omega
  by_cases h3 : ln < 4 + N
  · have hre : r.e = 3 := by rw [← hr]; exact t3 h6' h3
    have i2 : (ln : Int) - 4 < (N : Int) := by omega
    replace hre := hide hre
    replace hr := hide hr
    replace hln := hide hln
    replace h3 := hide h3
    replace h6' := hide h6'
    clear t6 t3 t0 hbe hbe2
    go_enter Tryz.func52, Tryz.ntmps52
    go_wp2_with fail
    rw [← hw1]
    replace hw1 := hide hw1
    go_call NB as e w2 ⟨rfl, P2⟩
    have K0 := KA.only P2 (by simp)
    have K1 := KB.only P2 (by simp)
    have g0 : w2.cell? ⟨w.heap.size, 0, none⟩ = some (.int .i64 0) := K0.cell 0
    have f0 := K0.frozen 0
    have g1 : w2.cell? ⟨w.heap.size, 1, none⟩ = some (.int .u32 0) := K0.cell 1
    have f1 := K0.frozen 1
    have g2 : w2.cell? ⟨w.heap.size, 2, none⟩ = some (.slice none 0 0) := K0.cell 2
    have f2 := K0.frozen 2
    have g3 : w2.cell? ⟨w.heap.size, 3, none⟩ = some (.slice none 0 0) := K0.cell 3
    have f3 := K0.frozen 3
    have d0 : w2.cell? ⟨w.heap.size + 1, 0, none⟩ = some (.int .i64 4) := K1.cell 0
    have e0 := K1.frozen 0
    have d1 : w2.cell? ⟨w.heap.size + 1, 1, none⟩ = some (.int .u32 0) := K1.cell 1
    have e1 := K1.frozen 1
    have d2 : w2.cell? ⟨w.heap.size + 1, 2, none⟩ = some (.slice none 0 0) := K1.cell 2
    have e2 := K1.frozen 2
    have d3 : w2.cell? ⟨w.heap.size + 1, 3, none⟩ = some (.slice none 0 0) := K1.cell 3
    have e3 := K1.frozen 3
    go_wp2_with fail
    (try simp only [Exit.inBlock, Exit.then])
    refine ret_take (g := w.heap.size) (v0 := .int .i64 4) (v1 := .int .u32 0) (v2 := .slice none 0 0) (v3 := .slice none 0 0) rfl (by rfl) (by rfl) (W4.blk K0 _ _ _ _) ?_
    exact ⟨(X1.trans P2 (by simp)).trans (W4.only _ _ _ _ _ _) (fun x hx => .inr (by simp at hx; omega)), ⟨4, 0, none, 0, [], none, 0, []⟩, 0, by rw [hre.out]; rfl, fun h => by rw [hre.out] at h; cases h⟩
  have i2 : ¬ (ln : Int) - 4 < (N : Int) := by omega
  have hT := t0 h6' (by omega)
  obtain ⟨tx, htx⟩ : ∃ tx, (l.drop 4).take N = tx := ⟨_, rfl⟩
  have htn : tx.length = N := by rw [← htx, List.length_take, List.length_drop, hln]; omega
  rw [htx] at hT
  have hwr : IntKind.u32.wrap (4 + (N : Int)) = 4 + (N : Int) := by rw [IntKind.wrap_u32]; omega
  have hmod : (4 + (N : Int)) % 4294967296 = 4 + (N : Int) := by omega
  have j0 : (4 : Int) ≤ 4 + (N : Int) := by omega
  have j1 : 4 + (N : Int) ≤ (c : Int) := by omega
  have RDX := fun (w' : World) (P : Only [] w w') => part_four (w := w') (A := A) (l := l) c N (h.only P) (by rw [hln]; omega) (by rw [hln]; exact hlc)
  replace RDX := hide RDX
  have hlB : ∀ x ∈ tx, 0 ≤ x ∧ x < 256 := fun x hx => hl x (by rw [← htx] at hx; exact List.mem_of_mem_drop (List.mem_of_mem_take hx))
  replace hlB := hide hlB
  replace htx := hide htx
  replace htn := hide htn
  replace hT := hide hT
  replace hr := hide hr
  have hln2 : 4 + N ≤ ln := by omega
  replace hln2 := hide hln2
  have hN5 : N ≤ 32768 := by omega
  replace hN5 := hide hN5
  replace hln := hide hln
  clear t6 t3 t0 h3 h6' hbe hbe2
  go_enter Tryz.func52, Tryz.ntmps52
  go_wp2_with fail
  rw [← hw1]
  replace hw1 := hide hw1
  go_call NB as e w2 ⟨rfl, P2⟩
  have K0 := KA.only P2 (by simp)
  have K1 := KB.only P2 (by simp)
  have z2 := P2.size
  have X2 := X1.trans P2 (by simp)
  obtain ⟨A9, c9, hc9, R9⟩ := RDX.out w2 X2
  rw [htx.out] at R9
  have V6 : OwnB (w2.alloc (.cells #[] 5)) w2.heap.size (.slice (some ⟨w2.heap.size, 0, none⟩) 0 0) [] := ownB_lit w2 w2.heap.size [] (Nat.le_refl _) (by simp)
  have R6 : Rd (w2.alloc (.cells #[] 5)) A9 tx := R9.only ((Only.refl _ _).alloc _)
  rcases hc9 with ⟨hc9, rfl, rfl⟩ | ⟨hc9, rfl, rfl⟩
  all_goals (
    go_wp2_with (at_builtin; go_must (refine wpList_app3 rfl (.tmp 73) (.tmp 74) rfl w2.heap.size (.slice (some ⟨w2.heap.size, 0, none⟩) 0 0) [] rfl V6 _ _ tx (4 + N - 4) (by rw [htn.out]; omega) rfl R6 (by have := htn.out; have := hN5.out; simp; omega) (by simp) ?_; intro v8 w8 V8 P8 G8; replace V8 := V8.out; rw [List.nil_append] at V8; obtain ⟨A8, k8, rfl, R8, q8, m8, a8⟩ := V8.rd; rw [htn.out]; have KK0 := (K0.alloc (.cells #[] 5)).only P8 (by simp [Value.ownBlock]; omega); have KK1 := (K1.alloc (.cells #[] 5)).only P8 (by simp [Value.ownBlock]; omega); have g0 : w8.cell? ⟨w.heap.size, 0, none⟩ = some (.int .i64 0) := KK0.cell 0; have f0 := KK0.frozen 0; have g1 : w8.cell? ⟨w.heap.size, 1, none⟩ = some (.int .u32 0) := KK0.cell 1; have f1 := KK0.frozen 1; have g2 : w8.cell? ⟨w.heap.size, 2, none⟩ = some (.slice none 0 0) := KK0.cell 2; have f2 := KK0.frozen 2; have g3 : w8.cell? ⟨w.heap.size, 3, none⟩ = some (.slice none 0 0) := KK0.cell 3; have f3 := KK0.frozen 3; have d0 : w8.cell? ⟨w.heap.size + 1, 0, none⟩ = some (.int .i64 4) := KK1.cell 0; have e0 := KK1.frozen 0; have d1 : w8.cell? ⟨w.heap.size + 1, 1, none⟩ = some (.int .u32 0) := KK1.cell 1; have e1 := KK1.frozen 1; have d2 : w8.cell? ⟨w.heap.size + 1, 2, none⟩ = some (.slice none 0 0) := KK1.cell 2; have e2 := KK1.frozen 2; have d3 : w8.cell? ⟨w.heap.size + 1, 3, none⟩ = some (.slice none 0 0) := KK1.cell 3; have e3 := KK1.frozen 3))
    (try simp only [Exit.inBlock, Exit.then])
    have Y1 : Only [w.heap.size + 1] w8 (w8.setCell ⟨w.heap.size + 1, 2, none⟩ (.slice A8 N k8)) := (Only.refl _ _).setCell (p := ⟨w.heap.size + 1, 2, none⟩) (.inl (by simp)) _
    have Y4 := W4.only (w8.setCell ⟨w.heap.size + 1, 2, none⟩ (.slice A8 N k8)) w.heap.size (.int .i64 4) (.int .u32 0) (.slice A8 N k8) (.slice none 0 0)
    have B4 := W4.blk (KK0.only Y1 (by simp)) (.int .i64 4) (.int .u32 0) (.slice A8 N k8) (.slice none 0 0)
    have Y : Only [w.heap.size, w.heap.size + 1] w8 (W4 (w8.setCell ⟨w.heap.size + 1, 2, none⟩ (.slice A8 N k8)) w.heap.size (.int .i64 4) (.int .u32 0) (.slice A8 N k8) (.slice none 0 0)) := (Y1.mono (by simp)).trans Y4 (fun x hx => .inl (by simp at hx; simp [hx]))
    refine ret_take (g := w.heap.size) (v0 := .int .i64 4) (v1 := .int .u32 0) (v2 := .slice A8 N k8) (v3 := .slice none 0 0) rfl (by rfl) (by rfl) B4 ?_
    have hrr : r = ⟨0, 0, tx, [], l.drop (4 + N)⟩ := by rw [← hr.out]; exact hT.out
    refine ⟨((X2.alloc _).trans P8 (fun x hx => .inr (by simp [Value.ownBlock] at hx; omega))).trans Y (fun x hx => .inr (by simp at hx; omega)), ⟨4, 0, A8, k8, tx, none, 0, []⟩, 4 + N, ?_, fun _ => ?_⟩
    · show Ending.returned (.tuple #[.agg #[.int .i64 4, .int .u32 0, .slice A8 N k8, .slice none 0 0], .int .i64 (4 + (N : Int)), .int .i64 0]) = Ending.returned (.tuple #[.agg #[.int .i64 4, .int .u32 0, .slice A8 tx.length k8, .slice none 0 0], .int .i64 ((4 + N : Nat) : Int), .int .i64 r.e])
      rw [hrr, htn.out, Int.natCast_add]
      rfl
    · rw [hrr]
      exact ⟨rfl, by have := hln.out; have := hln2.out; omega, rfl, mine_text V8 Y (fun x hx => by simp at hx; omega) (by omega)⟩)
end Go.Proofs.YtmpeidliacbelaaGreatDoor

namespace Go.Proofs.YtmpeidliacbelaaGreatDoor
set_option linter.all false
open Go.RowKit

set_option maxRecDepth 100000 in
set_option maxHeartbeats 6400000 in
theorem refTake_names (A : Option Addr) (l : List Int) (c : Nat) (w : World) (h : Rd w A l) (hl : ∀ x ∈ l, 0 ≤ x ∧ x < 256) (h4 : 4 ≤ l.length) (hlc : l.length ≤ c) (hlm : c ≤ maxLen) :
    Calls Tryz.prog 52 #[.int .i64 5, .slice A l.length c] w (TakePost w 5 l (rKind 5 l)) := by
  unfold maxLen at hlm
  obtain ⟨w1, hw1⟩ : ∃ w1, w1 = (w.alloc (.cells #[.int .i64 0, .int .u32 0, .slice none 0 0, .slice none 0 0] 61)).alloc (.cells #[.int .i64 5, .int .u32 0, .slice none 0 0, .slice none 0 0] 61) := ⟨_, rfl⟩
  have X1 : Only [] w w1 := by rw [hw1]; exact ((Only.refl _ _).alloc _).alloc _
  have hs1 : w1.heap.size = w.heap.size + 2 := by rw [hw1]; simp
  have KA : Blk w1 w.heap.size 61 [.int .i64 0, .int .u32 0, .slice none 0 0, .slice none 0 0] := by
    rw [hw1]
    exact (Blk.new w 61 [.int .i64 0, .int .u32 0, .slice none 0 0, .slice none 0 0]).alloc _
  have KB : Blk w1 (w.heap.size + 1) 61 [.int .i64 5, .int .u32 0, .slice none 0 0, .slice none 0 0] := by
    have := Blk.new (w.alloc (.cells #[.int .i64 0, .int .u32 0, .slice none 0 0, .slice none 0 0] 61)) 61 [.int .i64 5, .int .u32 0, .slice none 0 0, .slice none 0 0]
    rw [show (w.alloc (.cells #[.int .i64 0, .int .u32 0, .slice none 0 0, .slice none 0 0] 61)).heap.size = w.heap.size + 1 by simp] at this
    rw [hw1]
    exact this
  have NB := refNumber_any A l c w1 (h.only X1) h4 hl
  have hbe := be4_ok l hl
  obtain ⟨ln, hln⟩ : ∃ ln, l.length = ln := ⟨_, rfl⟩
  have i1 : ¬ (ln : Int) < 4 := by omega
  rw [show rKind 5 l = rNames l from rfl]
  have t6 := rText_six l h4
  have t3 := rText_three l h4
  have t0 := rText_is l h4
  obtain ⟨N, hN⟩ := Int.eq_ofNat_of_zero_le hbe.1
  rw [hN, Int.toNat_natCast] at t3 t0
  rw [hN] at NB hbe t6
  have hbe2 := hbe.2
  rw [hln] at NB t3 t0 hlc
  obtain ⟨r, hr⟩ : ∃ r, rNames l = r := ⟨_, rfl⟩
  rw [hr, hln]
  replace hN := hide hN
  by_cases h6 : (32768 : Int) < (N : Int)
  · have hre : r.e = 6 := by rw [← hr]; exact rNames_bad l 6 (t6 h6) (by decide)
    replace hre := hide hre
    replace hr := hide hr
    replace hln := hide hln
    clear t6 t3 t0
    go_enter Tryz.func52, Tryz.ntmps52
    go_wp2_with fail
    rw [← hw1]
    replace hw1 := hide hw1
    go_call NB as e w2 ⟨rfl, P2⟩
    have K0 := KA.only P2 (by simp)
    have K1 := KB.only P2 (by simp)
    have g0 : w2.cell? ⟨w.heap.size, 0, none⟩ = some (.int .i64 0) := K0.cell 0
    have f0 := K0.frozen 0
    have g1 : w2.cell? ⟨w.heap.size, 1, none⟩ = some (.int .u32 0) := K0.cell 1
    have f1 := K0.frozen 1
    have g2 : w2.cell? ⟨w.heap.size, 2, none⟩ = some (.slice none 0 0) := K0.cell 2
    have f2 := K0.frozen 2
    have g3 : w2.cell? ⟨w.heap.size, 3, none⟩ = some (.slice none 0 0) := K0.cell 3
    have f3 := K0.frozen 3
    have d0 : w2.cell? ⟨w.heap.size + 1, 0, none⟩ = some (.int .i64 5) := K1.cell 0
    have e0 := K1.frozen 0
    have d1 : w2.cell? ⟨w.heap.size + 1, 1, none⟩ = some (.int .u32 0) := K1.cell 1
    have e1 := K1.frozen 1
    have d2 : w2.cell? ⟨w.heap.size + 1, 2, none⟩ = some (.slice none 0 0) := K1.cell 2
    have e2 := K1.frozen 2
    have d3 : w2.cell? ⟨w.heap.size + 1, 3, none⟩ = some (.slice none 0 0) := K1.cell 3
    have e3 := K1.frozen 3
    go_wp2_with fail
    (try simp only [Exit.inBlock, Exit.then])
    refine ret_take (g := w.heap.size) (v0 := .int .i64 5) (v1 := .int .u32 0) (v2 := .slice none 0 0) (v3 := .slice none 0 0) rfl (by rfl) (by rfl) (W4.blk K0 _ _ _ _) ?_
    exact ⟨(X1.trans P2 (by simp)).trans (W4.only _ _ _ _ _ _) (fun x hx => .inr (by simp at hx; omega)), ⟨5, 0, none, 0, [], none, 0, []⟩, 0, by rw [hre.out]; rfl, fun h => by rw [hre.out] at h; cases h⟩
  have h6' : (N : Int) ≤ 32768 := by omega
  by_cases h3 : ln < 4 + N
  · have hre : r.e = 3 := by rw [← hr]; exact rNames_bad l 3 (t3 h6' h3) (by decide)
    have i2 : (ln : Int) - 4 < (N : Int) := by omega
    replace hre := hide hre
    replace hr := hide hr
    replace hln := hide hln
    replace h3 := hide h3
    replace h6' := hide h6'
    clear t6 t3 t0 hbe hbe2
    go_enter Tryz.func52, Tryz.ntmps52
    go_wp2_with fail
    rw [← hw1]
    replace hw1 := hide hw1
    go_call NB as e w2 ⟨rfl, P2⟩
    have K0 := KA.only P2 (by simp)
    have K1 := KB.only P2 (by simp)
    have g0 : w2.cell? ⟨w.heap.size, 0, none⟩ = some (.int .i64 0) := K0.cell 0
    have f0 := K0.frozen 0
    have g1 : w2.cell? ⟨w.heap.size, 1, none⟩ = some (.int .u32 0) := K0.cell 1
    have f1 := K0.frozen 1
    have g2 : w2.cell? ⟨w.heap.size, 2, none⟩ = some (.slice none 0 0) := K0.cell 2
    have f2 := K0.frozen 2
    have g3 : w2.cell? ⟨w.heap.size, 3, none⟩ = some (.slice none 0 0) := K0.cell 3
    have f3 := K0.frozen 3
    have d0 : w2.cell? ⟨w.heap.size + 1, 0, none⟩ = some (.int .i64 5) := K1.cell 0
    have e0 := K1.frozen 0
    have d1 : w2.cell? ⟨w.heap.size + 1, 1, none⟩ = some (.int .u32 0) := K1.cell 1
    have e1 := K1.frozen 1
    have d2 : w2.cell? ⟨w.heap.size + 1, 2, none⟩ = some (.slice none 0 0) := K1.cell 2
    have e2 := K1.frozen 2
    have d3 : w2.cell? ⟨w.heap.size + 1, 3, none⟩ = some (.slice none 0 0) := K1.cell 3
    have e3 := K1.frozen 3
    go_wp2_with fail
    (try simp only [Exit.inBlock, Exit.then])
    refine ret_take (g := w.heap.size) (v0 := .int .i64 5) (v1 := .int .u32 0) (v2 := .slice none 0 0) (v3 := .slice none 0 0) rfl (by rfl) (by rfl) (W4.blk K0 _ _ _ _) ?_
    exact ⟨(X1.trans P2 (by simp)).trans (W4.only _ _ _ _ _ _) (fun x hx => .inr (by simp at hx; omega)), ⟨5, 0, none, 0, [], none, 0, []⟩, 0, by rw [hre.out]; rfl, fun h => by rw [hre.out] at h; cases h⟩
  have i2 : ¬ (ln : Int) - 4 < (N : Int) := by omega
  have hT := t0 h6' (by omega)
  obtain ⟨tx, htx⟩ : ∃ tx, (l.drop 4).take N = tx := ⟨_, rfl⟩
  have htn : tx.length = N := by rw [← htx, List.length_take, List.length_drop, hln]; omega
  rw [htx] at hT
  have hwr : IntKind.u32.wrap (4 + (N : Int)) = 4 + (N : Int) := by rw [IntKind.wrap_u32]; omega
  have hmod : (4 + (N : Int)) % 4294967296 = 4 + (N : Int) := by omega
  have j0 : (4 : Int) ≤ 4 + (N : Int) := by omega
  have j1 : 4 + (N : Int) ≤ (c : Int) := by omega
  have RDX := fun (w' : World) (P : Only [] w w') => part_four (w := w') (A := A) (l := l) c N (h.only P) (by rw [hln]; omega) (by rw [hln]; exact hlc)
  replace RDX := hide RDX
  have hlB : ∀ x ∈ tx, 0 ≤ x ∧ x < 256 := fun x hx => hl x (by rw [← htx] at hx; exact List.mem_of_mem_drop (List.mem_of_mem_take hx))
  replace hlB := hide hlB
  replace htx := hide htx
  replace htn := hide htn
  replace hT := hide hT
  replace hr := hide hr
  have hln2 : 4 + N ≤ ln := by omega
  replace hln2 := hide hln2
  have hN5 : N ≤ 32768 := by omega
  replace hN5 := hide hN5
  replace hln := hide hln
  clear t6 t3 t0 h3 h6' hbe hbe2
  go_enter Tryz.func52, Tryz.ntmps52
  go_wp2_with fail
  rw [← hw1]
  replace hw1 := hide hw1
  go_call NB as e w2 ⟨rfl, P2⟩
  have K0 := KA.only P2 (by simp)
  have K1 := KB.only P2 (by simp)
  have z2 := P2.size
  have X2 := X1.trans P2 (by simp)
  obtain ⟨A9, c9, hc9, R9⟩ := RDX.out w2 X2
  rw [htx.out] at R9
  have SP := refSplit_any A9 tx c9 w2 R9 hlB.out (by have := htn.out; have := hN5.out; omega)
  rw [htn.out] at SP
  obtain ⟨sr, hsr⟩ : ∃ sr, splitR tx = sr := ⟨_, rfl⟩
  rw [hsr] at SP
  obtain ⟨SE, SL⟩ := sr
  have hee : r.e = SE ∧ (SE = 0 → r = ⟨0, 0, [], SL, l.drop (4 + N)⟩) := by
    have h1 := hr.out
    unfold rNames at h1
    rw [hT.out] at h1
    unfold rNamesT at h1
    rw [if_neg (by simp)] at h1
    dsimp only at h1
    unfold splitR at hsr
    by_cases hx : tx = []
    · rw [if_pos hx] at h1 hsr
      injection hsr with e1 e2
      subst e1; subst e2
      rw [← h1]
      exact ⟨rfl, fun _ => rfl⟩
    · rw [if_neg hx] at h1 hsr
      by_cases hb : namesBad (pieces (strOfNums tx)) = 0
      · rw [if_pos hb] at hsr
        injection hsr with e1 e2
        subst e1; subst e2
        rw [← h1]
        exact ⟨hb, fun _ => by rw [hb]⟩
      · rw [if_neg hb] at hsr
        injection hsr with e1 e2
        subst e1
        rw [← h1]
        exact ⟨rfl, fun h0 => absurd h0 hb⟩
  have hss : ∀ s ∈ SL, s.size ≤ maxLen := by
    intro s hs
    have h1 : s ∈ pieces (strOfNums tx) := by
      unfold splitR at hsr
      by_cases hx : tx = []
      · rw [if_pos hx] at hsr
        injection hsr with e1 e2
        rw [← e2] at hs
        simp at hs
      · rw [if_neg hx] at hsr
        by_cases hb : namesBad (pieces (strOfNums tx)) = 0
        · rw [if_pos hb] at hsr
          injection hsr with e1 e2
          rw [e2]; exact hs
        · rw [if_neg hb] at hsr
          injection hsr with e1 e2
          rw [← e2] at hs
          simp at hs
    have h2 : s.data.toList ∈ cutL (strOfNums tx).data.toList := by rw [← pieces_data]; exact List.mem_map_of_mem h1
    have h3 := cutL_len _ _ h2
    have h4 := bsOf_len tx
    unfold bsOf at h4
    have h5 : s.size = s.data.toList.length := by simp
    have := htn.out
    have := hN5.out
    unfold maxLen
    omega
  replace hee := hide hee
  replace hss := hide hss
  replace hsr := hide hsr
  rcases hc9 with ⟨hc9, rfl, rfl⟩ | ⟨hc9, rfl, rfl⟩
  all_goals (
    (try rw [map_four] at SP)
    go_wp2_with fail
    go_call SP as e w8 ⟨P8, v8, rfl, V8⟩
    obtain ⟨A8, k8, rfl, R8, q8, m8, a8⟩ := V8.rd
    have KK0 := K0.only P8 (by simp)
    have KK1 := K1.only P8 (by simp)
    have z8 := P8.size
    dsimp only at V8 ⊢
    have g0 : w8.cell? ⟨w.heap.size, 0, none⟩ = some (.int .i64 0) := KK0.cell 0
    have f0 := KK0.frozen 0
    have g1 : w8.cell? ⟨w.heap.size, 1, none⟩ = some (.int .u32 0) := KK0.cell 1
    have f1 := KK0.frozen 1
    have g2 : w8.cell? ⟨w.heap.size, 2, none⟩ = some (.slice none 0 0) := KK0.cell 2
    have f2 := KK0.frozen 2
    have g3 : w8.cell? ⟨w.heap.size, 3, none⟩ = some (.slice none 0 0) := KK0.cell 3
    have f3 := KK0.frozen 3
    have d0 : w8.cell? ⟨w.heap.size + 1, 0, none⟩ = some (.int .i64 5) := KK1.cell 0
    have e0 := KK1.frozen 0
    have d1 : w8.cell? ⟨w.heap.size + 1, 1, none⟩ = some (.int .u32 0) := KK1.cell 1
    have e1 := KK1.frozen 1
    have d2 : w8.cell? ⟨w.heap.size + 1, 2, none⟩ = some (.slice none 0 0) := KK1.cell 2
    have e2 := KK1.frozen 2
    have d3 : w8.cell? ⟨w.heap.size + 1, 3, none⟩ = some (.slice none 0 0) := KK1.cell 3
    have e3 := KK1.frozen 3
    go_wp2_with fail
    (try simp only [Exit.inBlock, Exit.then])
    have Y1 : Only [w.heap.size + 1] w8 (w8.setCell ⟨w.heap.size + 1, 3, none⟩ (.slice A8 SL.length k8)) := (Only.refl _ _).setCell (p := ⟨w.heap.size + 1, 3, none⟩) (.inl (by simp)) _
    have Y4 := W4.only (w8.setCell ⟨w.heap.size + 1, 3, none⟩ (.slice A8 SL.length k8)) w.heap.size (.int .i64 5) (.int .u32 0) (.slice none 0 0) (.slice A8 SL.length k8)
    have B4 := W4.blk (KK0.only Y1 (by simp)) (.int .i64 5) (.int .u32 0) (.slice none 0 0) (.slice A8 SL.length k8)
    have Y : Only [w.heap.size, w.heap.size + 1] w8 (W4 (w8.setCell ⟨w.heap.size + 1, 3, none⟩ (.slice A8 SL.length k8)) w.heap.size (.int .i64 5) (.int .u32 0) (.slice none 0 0) (.slice A8 SL.length k8)) := (Y1.mono (by simp)).trans Y4 (fun x hx => .inl (by simp at hx; simp [hx]))
    refine ret_take (g := w.heap.size) (v0 := .int .i64 5) (v1 := .int .u32 0) (v2 := .slice none 0 0) (v3 := .slice A8 SL.length k8) rfl (by rfl) (by rfl) B4 ?_
    refine ⟨(X2.trans P8 (by simp)).trans Y (fun x hx => .inr (by simp at hx; omega)), ⟨5, 0, none, 0, [], A8, k8, SL⟩, 4 + N, ?_, fun h0 => ?_⟩
    · show Ending.returned (.tuple #[.agg #[.int .i64 5, .int .u32 0, .slice none 0 0, .slice A8 SL.length k8], .int .i64 (4 + (N : Int)), .int .i64 SE]) = Ending.returned (.tuple #[.agg #[.int .i64 5, .int .u32 0, .slice none 0 0, .slice A8 SL.length k8], .int .i64 ((4 + N : Nat) : Int), .int .i64 r.e])
      rw [hee.out.1, Int.natCast_add]
      rfl
    · have hrr := hee.out.2 (by rw [← hee.out.1]; exact h0)
      rw [hrr]
      exact ⟨rfl, by have := hln.out; have := hln2.out; omega, rfl, mine_list V8 Y (fun x hx => by simp at hx; omega) (by omega) hss.out⟩)

/-- take, of any kind that may be. -/
theorem take_any (k : Int) (h1 : 1 ≤ k) (h6 : k ≤ 6) (A : Option Addr) (l : List Int) (c : Nat) (w : World) (h : Rd w A l) (hl : ∀ x ∈ l, 0 ≤ x ∧ x < 256) (hlen : l.length ≤ 140737488355000) (hlc : l.length ≤ c) (hlm : c ≤ maxLen) :
    Calls Tryz.prog 52 #[.int .i64 k, .slice A l.length c] w (TakePost w k l (rKind k.toNat l)) := by
  by_cases h12 : k = 1 ∨ k = 2
  · exact take_octet k h12 A l c w h hl hlen
  by_cases h66 : k = 6
  · subst h66
    exact take_rest A l c w h hlen
  by_cases h4 : l.length < 4
  · exact refTake_short k (by omega) A l c w h4
  have hk : k = 3 ∨ k = 4 ∨ k = 5 := by omega
  rcases hk with rfl | rfl | rfl
  · exact take_number A l c w h hl (by omega)
  · exact refTake_text A l c w h hl (by omega) hlc hlm
  · exact refTake_names A l c w h hl (by omega) hlc hlm
end Go.Proofs.YtmpeidliacbelaaGreatDoor
