/- The document's answer for layer 1: take; no condition but the bytes' number. -/
import Derived.Test.YtdmjabfjkkjhbaaDoorRefN
import Derived.Test.YtdmjabfjkkjhbaaDoorRefB
import Derived.Test.YtdmjabfjkkjhbaaDoorOctP
namespace Go.Proofs.YtdmjabfjkkjhbaaDoor
set_option linter.all false
open Go.RowKit

theorem results_take {fn : Func} {p t u : Tmp} (h : fn.results = #[.cell p 35, .tmp t, .tmp u]) (tmps : Array Value) (w : World) (g : Nat) (cs : Array Value) (hs : cs.size = 4)
    (hp : tmps.getD p undef = .pointer (some ⟨g, 0, none⟩)) (hg : w.heap[g]? = some (.cells cs 35 (0, 0))) :
    (results fn tmps).run Tryd.prog w = .ok (.tuple #[.agg cs, tmps.getD t undef, tmps.getD u undef]) w := by
  have hp' : tmps[p]?.getD undef = .pointer (some ⟨g, 0, none⟩) := by simpa using hp
  simp [results, h, hp', asAddr, run_loadVar_row w g 35 35 cs (0, 0) _ hg Tryd.underlying35 rfl (by rw [hs]; kernel_rfl)]
theorem ret_take {fn : Func} {p t u : Tmp} {R : Ending → World → Prop} {a : Act} {w : World} {g : Nat} {v0 v1 v2 v3 : Value} (h : fn.results = #[.cell p 35, .tmp t, .tmp u]) (hp : a.tmps.getD p undef = .pointer (some ⟨g, 0, none⟩)) (hd : a.defers = [])
    (hg : Blk w g 35 [v0, v1, v2, v3]) (hR : R (.returned (.tuple #[.agg #[v0, v1, v2, v3], a.tmps.getD t undef, a.tmps.getD u undef])) w) : bodyPost Tryd.prog fn R .ret a w :=
  bodyPost_ret (results_take h _ w g #[v0, v1, v2, v3] rfl hp hg) hd hR

theorem mine_text {w8 w' : World} {B B' k8 : Nat} {A8 : Option Addr} {kd nn : Int} {l : List Int} {L : List Nat} (V8 : OwnB w8 B (.slice A8 l.length k8) l) (Y : Only L w8 w') (hL : ∀ x ∈ L, x < B) (hB : B' ≤ B) : FD.mine w' ⟨kd, nn, A8, k8, l, none, 0, []⟩ B' := by
  obtain ⟨A, k, e, R8, q8, m8, a8⟩ := V8.rd
  injection e with e1 _ e3
  subst e1; subst e3
  have S8 := OwnB.soft V8
  refine ⟨⟨RdG.onlyL (mk := .int .u8) R8 Y (fun a ha _ hm => by have h1 := a8 a ha; have h2 := hL _ hm; omega), RdG.nil, q8, m8, by simp, by simp, by simp⟩, ⟨fun a ha => by have := a8 a ha; omega, fun a ha => by simp at ha⟩, fun a ha i hi => ?_⟩
  have hlt := RdG.lt (mk := .int .u8) R8 (show 0 < l.length by have : i < l.length := hi; omega) a ha
  refine (World.frozen?_of_block (w := w8) ?_).trans (S8 a ha i hi)
  rw [block_add]
  exact Y.block _ hlt (fun hm => by have h1 := a8 a ha; have h2 := hL _ hm; omega)
theorem mine_list {w8 w' : World} {B B' k8 : Nat} {A8 : Option Addr} {kd nn : Int} {ls : List ByteArray} {L : List Nat} (V8 : OwnS w8 B (.slice A8 ls.length k8) ls) (Y : Only L w8 w') (hL : ∀ x ∈ L, x < B) (hB : B' ≤ B) (hs : ∀ s ∈ ls, s.size ≤ maxLen) : FD.mine w' ⟨kd, nn, none, 0, [], A8, k8, ls⟩ B' := by
  obtain ⟨A, k, e, R8, q8, m8, a8⟩ := V8.rd
  injection e with e1 _ e3
  subst e1; subst e3
  exact ⟨⟨RdG.nil, RdG.onlyL (mk := .string) R8 Y (fun a ha _ hm => by have h1 := a8 a ha; have h2 := hL _ hm; omega), by simp, by simp, q8, m8, hs⟩, ⟨fun a ha => by simp at ha, fun a ha => by have := a8 a ha; omega⟩, fun a ha => by simp at ha⟩

/-- What take hands on. -/
def TakePost (w : World) (k : Int) (l : List Int) (r : R) : Ending → World → Prop := fun E w' =>
  Only [] w w' ∧ ∃ (f : FD) (nn : Nat), E = .returned (.tuple #[f.val, .int .i64 nn, .int .i64 r.e]) ∧ (r.e = 0 → f.pf = ⟨k, r.n, r.text, r.list⟩ ∧ nn ≤ l.length ∧ l.drop nn = r.rest ∧ FD.mine w' f w.heap.size)

set_option maxRecDepth 100000 in
set_option maxHeartbeats 3200000 in
theorem take_octet (k : Int) (hk : k = 1 ∨ k = 2) (A : Option Addr) (l : List Int) (c : Nat) (w : World) (h : Rd w A l) (hl : ∀ x ∈ l, 0 ≤ x ∧ x < 256) (hlen : l.length ≤ 140737488355000) :
    Calls Tryd.prog 32 #[.int .i64 k, .slice A l.length c] w (TakePost w k l (rKind k.toNat l)) := by
  cases l with
  | nil =>
    rcases hk with rfl | rfl
    · go_enter Tryd.func32, Tryd.ntmps32
      go_wp2_with fail
      (try simp only [Exit.inBlock, Exit.then])
      refine ret_take (g := w.heap.size) (v0 := .int .i64 1) (v1 := .int .u32 0) (v2 := .slice none 0 0) (v3 := .slice none 0 0) rfl (by rfl) (by rfl) (by exact (Blk.new w 35 [.int .i64 1, .int .u32 0, .slice none 0 0, .slice none 0 0]).alloc _) ?_
      exact ⟨((Only.refl _ _).alloc _).alloc _, ⟨1, 0, none, 0, [], none, 0, []⟩, 0, rfl, fun h => by cases h⟩
    · go_enter Tryd.func32, Tryd.ntmps32
      go_wp2_with fail
      (try simp only [Exit.inBlock, Exit.then])
      refine ret_take (g := w.heap.size) (v0 := .int .i64 2) (v1 := .int .u32 0) (v2 := .slice none 0 0) (v3 := .slice none 0 0) rfl (by rfl) (by rfl) (by exact (Blk.new w 35 [.int .i64 2, .int .u32 0, .slice none 0 0, .slice none 0 0]).alloc _) ?_
      exact ⟨((Only.refl _ _).alloc _).alloc _, ⟨2, 0, none, 0, [], none, 0, []⟩, 0, rfl, fun h => by cases h⟩
  | cons x t =>
    obtain ⟨b, off, y, rfl, hb, hy, cx⟩ := RdG.at (mk := .int .u8) h 0 (by simp)
    simp at hy
    subst hy
    rw [Nat.add_zero] at cx
    have hx := hl x (by simp)
    obtain ⟨n, hn⟩ : ∃ n, (x :: t).length = n := ⟨_, rfl⟩
    have hn1 : 1 ≤ n := by rw [← hn]; simp
    rw [hn] at hlen ⊢
    have i1 : ¬ (n : Int) < 1 := by omega
    have i2 : (0 : Int) < (n : Int) := by omega
    replace hn := hide hn
    rcases hk with rfl | rfl
    · go_enter Tryd.func32, Tryd.ntmps32
      go_wp2_with fail
      (try simp only [Exit.inBlock, Exit.then])
      refine ret_take (g := w.heap.size) (v0 := .int .i64 1) (v1 := .int .u32 x) (v2 := .slice none 0 0) (v3 := .slice none 0 0) rfl (by rfl) (by rfl) (by exact (Blk.new w 35 [.int .i64 1, .int .u32 x, .slice none 0 0, .slice none 0 0]).alloc _) ?_
      exact ⟨((Only.refl _ _).alloc _).alloc _, ⟨1, x, none, 0, [], none, 0, []⟩, 1, rfl, fun _ => ⟨rfl, by have := hn.out; omega, rfl, FD.mine.plain _ _ _ _⟩⟩
    · go_enter Tryd.func32, Tryd.ntmps32
      go_wp2_with fail
      (try simp only [Exit.inBlock, Exit.then])
      refine ret_take (g := w.heap.size) (v0 := .int .i64 2) (v1 := .int .u32 (min x 1)) (v2 := .slice none 0 0) (v3 := .slice none 0 0) rfl (by rfl) (by rfl) (by exact (Blk.new w 35 [.int .i64 2, .int .u32 (min x 1), .slice none 0 0, .slice none 0 0]).alloc _) ?_
      exact ⟨((Only.refl _ _).alloc _).alloc _, ⟨2, min x 1, none, 0, [], none, 0, []⟩, 1, rfl, fun _ => ⟨rfl, by have := hn.out; omega, rfl, FD.mine.plain _ _ _ _⟩⟩

set_option maxRecDepth 100000 in
set_option maxHeartbeats 3200000 in
theorem take_rest (A : Option Addr) (l : List Int) (c : Nat) (w : World) (h : Rd w A l) (hlen : l.length ≤ 140737488355000) :
    Calls Tryd.prog 32 #[.int .i64 6, .slice A l.length c] w (TakePost w 6 l (rKind 6 l)) := by
  have e6 : rKind 6 l = ⟨over l.length 33792 6, 0, l, [], []⟩ := rfl
  rw [e6]
  by_cases hbig : 33792 < l.length
  · rw [over_pos (show (33792 : Int) < (l.length : Int) by omega)]
    obtain ⟨n, hn⟩ : ∃ n, l.length = n := ⟨_, rfl⟩
    rw [hn] at hbig ⊢
    have i1 : (33792 : Int) < (n : Int) := by omega
    go_enter Tryd.func32, Tryd.ntmps32
    go_wp2_with fail
    (try simp only [Exit.inBlock, Exit.then])
    refine ret_take (g := w.heap.size) (v0 := .int .i64 6) (v1 := .int .u32 0) (v2 := .slice none 0 0) (v3 := .slice none 0 0) rfl (by rfl) (by rfl) (by exact (Blk.new w 35 [.int .i64 6, .int .u32 0, .slice none 0 0, .slice none 0 0]).alloc _) ?_
    exact ⟨((Only.refl _ _).alloc _).alloc _, ⟨6, 0, none, 0, [], none, 0, []⟩, 0, rfl, fun h => by cases h⟩
  · rw [over_neg (show ¬ (33792 : Int) < (l.length : Int) by omega)]
    have i1 : ¬ (33792 : Int) < (l.length : Int) := by omega
    have X2 : Only [] w ((w.alloc (.cells #[.int .i64 0, .int .u32 0, .slice none 0 0, .slice none 0 0] 35)).alloc (.cells #[.int .i64 6, .int .u32 0, .slice none 0 0, .slice none 0 0] 35)) := ((Only.refl _ _).alloc _).alloc _
    have hs2 : ((w.alloc (.cells #[.int .i64 0, .int .u32 0, .slice none 0 0, .slice none 0 0] 35)).alloc (.cells #[.int .i64 6, .int .u32 0, .slice none 0 0, .slice none 0 0] 35)).heap.size = w.heap.size + 2 := by simp
    have K0 := ((Blk.new w 35 [.int .i64 0, .int .u32 0, .slice none 0 0, .slice none 0 0]).alloc (.cells #[.int .i64 6, .int .u32 0, .slice none 0 0, .slice none 0 0] 35))
    have K1 := Blk.new (w.alloc (.cells #[.int .i64 0, .int .u32 0, .slice none 0 0, .slice none 0 0] 35)) 35 [.int .i64 6, .int .u32 0, .slice none 0 0, .slice none 0 0]
    rw [show (w.alloc (.cells #[.int .i64 0, .int .u32 0, .slice none 0 0, .slice none 0 0] 35)).heap.size = w.heap.size + 1 by simp] at K1
    obtain ⟨wb, hwb⟩ : ∃ wb, wb = (w.alloc (.cells #[.int .i64 0, .int .u32 0, .slice none 0 0, .slice none 0 0] 35)).alloc (.cells #[.int .i64 6, .int .u32 0, .slice none 0 0, .slice none 0 0] 35) := ⟨_, rfl⟩
    have V6 : OwnB (wb.alloc (.cells #[] 5)) (w.heap.size + 2) (.slice (some ⟨w.heap.size + 2, 0, none⟩) 0 0) [] := by
      have := ownB_lit wb (w.heap.size + 2) [] (by rw [hwb, hs2]; exact Nat.le_refl _) (by simp)
      rw [show wb.heap.size = w.heap.size + 2 by rw [hwb, hs2]] at this
      exact this
    have K0' : Blk (wb.alloc (.cells #[] 5)) w.heap.size 35 [.int .i64 0, .int .u32 0, .slice none 0 0, .slice none 0 0] := by rw [hwb]; exact Blk.alloc K0 _
    have K1' : Blk (wb.alloc (.cells #[] 5)) (w.heap.size + 1) 35 [.int .i64 6, .int .u32 0, .slice none 0 0, .slice none 0 0] := by rw [hwb]; exact Blk.alloc K1 _
    have X3 : Only [] w (wb.alloc (.cells #[] 5)) := by rw [hwb]; exact X2.alloc _
    have R6 : Rd (wb.alloc (.cells #[] 5)) A l := h.only X3
    rw [hwb] at V6 K0' K1' X3 R6
    clear hwb K0 K1 X2 hs2
    go_enter Tryd.func32, Tryd.ntmps32
    go_wp2_with (at_builtin; go_must (refine wpList_app3 rfl (.tmp 39) (.tmp 40) rfl (w.heap.size + 2) (.slice (some ⟨w.heap.size + 2, 0, none⟩) 0 0) [] rfl V6 A c l _ rfl rfl R6 (by simp; omega) (by simp) ?_; intro v8 w8 V8 P8 G8; replace V8 := V8.out; rw [List.nil_append] at V8; obtain ⟨A8, k8, rfl, R8, q8, m8, a8⟩ := V8.rd; have K0 := K0'.only P8 (by simp [Value.ownBlock]); have K1 := K1'.only P8 (by simp [Value.ownBlock]); have g0 : w8.cell? ⟨w.heap.size, 0, none⟩ = some (.int .i64 0) := K0.cell 0; have g1 : w8.cell? ⟨w.heap.size, 1, none⟩ = some (.int .u32 0) := K0.cell 1; have g2 : w8.cell? ⟨w.heap.size, 2, none⟩ = some (.slice none 0 0) := K0.cell 2; have g3 : w8.cell? ⟨w.heap.size, 3, none⟩ = some (.slice none 0 0) := K0.cell 3; have f0 := K0.frozen 0; have f1 := K0.frozen 1; have f2 := K0.frozen 2; have f3 := K0.frozen 3; have d0 : w8.cell? ⟨w.heap.size + 1, 0, none⟩ = some (.int .i64 6) := K1.cell 0; have d1 : w8.cell? ⟨w.heap.size + 1, 1, none⟩ = some (.int .u32 0) := K1.cell 1; have d2 : w8.cell? ⟨w.heap.size + 1, 2, none⟩ = some (.slice none 0 0) := K1.cell 2; have d3 : w8.cell? ⟨w.heap.size + 1, 3, none⟩ = some (.slice none 0 0) := K1.cell 3; have e2 := K1.frozen 2))
    (try simp only [Exit.inBlock, Exit.then])
    have Y1 : Only [w.heap.size + 1] w8 (w8.setCell ⟨w.heap.size + 1, 2, none⟩ (.slice A8 l.length k8)) := (Only.refl _ _).setCell (p := ⟨w.heap.size + 1, 2, none⟩) (.inl (by simp)) _
    have Y4 := W4.only (w8.setCell ⟨w.heap.size + 1, 2, none⟩ (.slice A8 l.length k8)) w.heap.size (.int .i64 6) (.int .u32 0) (.slice A8 l.length k8) (.slice none 0 0)
    have B4 := W4.blk (K0.only Y1 (by simp)) (.int .i64 6) (.int .u32 0) (.slice A8 l.length k8) (.slice none 0 0)
    have Y : Only [w.heap.size, w.heap.size + 1] w8 (W4 (w8.setCell ⟨w.heap.size + 1, 2, none⟩ (.slice A8 l.length k8)) w.heap.size (.int .i64 6) (.int .u32 0) (.slice A8 l.length k8) (.slice none 0 0)) := (Y1.mono (by simp)).trans Y4 (fun x hx => .inl (by simp at hx; simp [hx]))
    refine ret_take (g := w.heap.size) (v0 := .int .i64 6) (v1 := .int .u32 0) (v2 := .slice A8 l.length k8) (v3 := .slice none 0 0) rfl (by rfl) (by rfl) B4 ?_
    exact ⟨(X3.trans P8 (fun x hx => .inr (by simp [Value.ownBlock] at hx; omega))).trans Y (fun x hx => .inr (by simp at hx; omega)), ⟨6, 0, A8, k8, l, none, 0, []⟩, l.length, rfl, fun _ => ⟨rfl, Nat.le_refl _, by simp, mine_text V8 Y (fun x hx => by simp at hx; omega) (by omega)⟩⟩

set_option maxRecDepth 100000 in
set_option maxHeartbeats 3200000 in
theorem refTake_short (k : Int) (hk : k = 3 ∨ k = 4 ∨ k = 5) (A : Option Addr) (l : List Int) (c : Nat) (w : World) (h4 : l.length < 4) :
    Calls Tryd.prog 32 #[.int .i64 k, .slice A l.length c] w (TakePost w k l (rKind k.toNat l)) := by
  have e3 : (rKind k.toNat l).e = 3 := by
    rcases hk with rfl | rfl | rfl
    · show (rNumber l).e = 3; unfold rNumber; rw [if_pos h4]; rfl
    · show (rText l).e = 3; unfold rText; rw [if_pos h4]; rfl
    · show (rNames l).e = 3
      have : rText l = rShort l := by unfold rText; rw [if_pos h4]
      unfold rNames; rw [this]; rfl
  obtain ⟨r, hr⟩ : ∃ r, rKind k.toNat l = r := ⟨_, rfl⟩
  rw [hr] at e3 ⊢
  obtain ⟨n, hn⟩ : ∃ n, l.length = n := ⟨_, rfl⟩
  rw [hn] at h4 ⊢
  have i1 : (n : Int) < 4 := by omega
  replace hr := hide hr
  replace e3 := hide e3
  rcases hk with rfl | rfl | rfl
  · go_enter Tryd.func32, Tryd.ntmps32
    go_wp2_with fail
    (try simp only [Exit.inBlock, Exit.then])
    refine ret_take (g := w.heap.size) (v0 := .int .i64 3) (v1 := .int .u32 0) (v2 := .slice none 0 0) (v3 := .slice none 0 0) rfl (by rfl) (by rfl) (by exact (Blk.new w 35 [.int .i64 3, .int .u32 0, .slice none 0 0, .slice none 0 0]).alloc _) ?_
    exact ⟨((Only.refl _ _).alloc _).alloc _, ⟨3, 0, none, 0, [], none, 0, []⟩, 0, by rw [e3.out]; rfl, fun h => by rw [e3.out] at h; cases h⟩
  · go_enter Tryd.func32, Tryd.ntmps32
    go_wp2_with fail
    (try simp only [Exit.inBlock, Exit.then])
    refine ret_take (g := w.heap.size) (v0 := .int .i64 4) (v1 := .int .u32 0) (v2 := .slice none 0 0) (v3 := .slice none 0 0) rfl (by rfl) (by rfl) (by exact (Blk.new w 35 [.int .i64 4, .int .u32 0, .slice none 0 0, .slice none 0 0]).alloc _) ?_
    exact ⟨((Only.refl _ _).alloc _).alloc _, ⟨4, 0, none, 0, [], none, 0, []⟩, 0, by rw [e3.out]; rfl, fun h => by rw [e3.out] at h; cases h⟩
  · go_enter Tryd.func32, Tryd.ntmps32
    go_wp2_with fail
    (try simp only [Exit.inBlock, Exit.then])
    refine ret_take (g := w.heap.size) (v0 := .int .i64 5) (v1 := .int .u32 0) (v2 := .slice none 0 0) (v3 := .slice none 0 0) rfl (by rfl) (by rfl) (by exact (Blk.new w 35 [.int .i64 5, .int .u32 0, .slice none 0 0, .slice none 0 0]).alloc _) ?_
    exact ⟨((Only.refl _ _).alloc _).alloc _, ⟨5, 0, none, 0, [], none, 0, []⟩, 0, by rw [e3.out]; rfl, fun h => by rw [e3.out] at h; cases h⟩
end Go.Proofs.YtdmjabfjkkjhbaaDoor
