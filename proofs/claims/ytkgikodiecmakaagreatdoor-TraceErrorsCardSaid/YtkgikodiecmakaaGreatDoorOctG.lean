/- Layer 1: the writer; for every field, no condition · Layer 1: the writer, continued: a text behind its length; for every field, no condition · Layer 1: the writer, continued: names; for every field whose names may be, no condition · Layer 1: the reader: copies, what is taken off; for all bytes, no condition. -/
import Derived.Test.YtkgikodiecmakaaGreatDoorOctC
import Derived.IntWalk
import Derived.Test.YtkgikodiecmakaaGreatDoorHeld
import Derived.Test.YtkgikodiecmakaaGreatDoorShelf
import Derived.Lib.ConvBytes
import Derived.Lib.SliceRun
namespace Go.Proofs.YtkgikodiecmakaaGreatDoor
set_option linter.all false
open Go.RowKit

theorem cellL {L : List Nat} {w w' : World} (h : Only L w w') {b o : Nat} {v : Value} (hb : b < w.heap.size) (hn : b ∉ L) (hc : w.cell? ⟨b, o, none⟩ = some v) : w'.cell? ⟨b, o, none⟩ = some v := (World.cell?_of_block (w := w) (h.block b hb hn)).trans hc
theorem frozenL {L : List Nat} {w w' : World} (h : Only L w w') {b o : Nat} {v : Bool} (hb : b < w.heap.size) (hn : b ∉ L) (hc : w.frozen? ⟨b, o, none⟩ = v) : w'.frozen? ⟨b, o, none⟩ = v := (World.frozen?_of_block (w := w) (h.block b hb hn)).trans hc
theorem OwnB.low {w : World} {base : Nat} {v : Value} {l : List Int} (h : OwnB w base v l) : ∀ x, x < base → x ∉ v.ownBlock.toList := fun x hx hm => by
  have := h.block x (by simpa using hm)
  omega
theorem OwnB.high {w : World} {base : Nat} {v : Value} {l : List Int} (h : OwnB w base v l) : ∀ x, w.heap.size ≤ x → x ∉ v.ownBlock.toList := fun x hx hm => by
  have := h.block x (by simpa using hm)
  omega

/-- A writer lies in block g; its bytes are v. -/
structure WrV (w : World) (g base : Nat) (v : Value) (l : List Int) : Prop where
  blk : Blk w g 169 [v]
  own : OwnB w base v l
  low : g < base
  top : base ≤ w.heap.size
theorem WrV.only {w w' : World} {g base : Nat} {v : Value} {l : List Int} {L : List Nat} (h : WrV w g base v l) (hb : Only L w w') (h1 : g ∉ L) (h2 : ∀ x ∈ L, some x ≠ v.ownBlock) : WrV w' g base v l :=
  ⟨h.blk.only hb h1, h.own.far hb h2, h.low, Nat.le_trans h.top hb.size⟩
/-- What a step leaves. -/
def Moved (w w' : World) (g : Nat) (v v' : Value) : Prop := Only (g :: v.ownBlock.toList) w w' ∧ (v'.ownBlock = v.ownBlock ∨ ∀ x, v'.ownBlock = some x → w.heap.size ≤ x)
theorem Moved.trans {w w1 w2 : World} {g : Nat} {v v1 v2 : Value} (h : Moved w w1 g v v1) (k : Moved w1 w2 g v1 v2) : Moved w w2 g v v2 := by
  refine ⟨h.1.trans k.1 (fun x hx => ?_), ?_⟩
  · rcases List.mem_cons.1 hx with rfl | hx
    · exact .inl (List.mem_cons_self)
    · rcases h.2 with e | e
      · rw [e] at hx; exact .inl (List.mem_cons_of_mem _ hx)
      · exact .inr (e x (by simpa using hx))
  · rcases k.2 with e | e
    · rcases h.2 with e1 | e1
      · exact .inl (e.trans e1)
      · exact .inr (fun x hx => e1 x (by rw [← e]; exact hx))
    · exact .inr (fun x hx => Nat.le_trans h.1.size (e x hx))
theorem Moved.from {w w0 w1 : World} {g : Nat} {v v1 : Value} (h : Moved w0 w1 g v v1) (k : Only [] w w0) : Moved w w1 g v v1 :=
  ⟨(k.mono (by simp)).trans h.1 (fun x hx => .inl hx), h.2.imp id (fun hh x hx => Nat.le_trans k.size (hh x hx))⟩
def four (n : Int) : List Int := [n / 16777216 % 256, n / 65536 % 256, n / 256 % 256, n % 256]
theorem rd_lit (w : World) (cs : Array Value) (l : List Int) (h : cs = (u8s l).toArray) : Rd (w.alloc (.cells cs 5)) (some ⟨w.heap.size, 0, none⟩) l := fun _ => ⟨w.heap.size, 0, rfl, by simp, fun i v hi => by
  rw [h, World.cell?_alloc_mark]
  simp [u8s, hi]⟩
def WPost (w : World) (g base : Nat) (v : Value) (l : List Int) (e : Ending) (w' : World) : Prop := e = .returned (.tuple #[]) ∧ ∃ v', WrV w' g base v' l ∧ Moved w w' g v v'
theorem wr_put {w w2 w9 : World} {g base n k9 : Nat} {A9 : Option Addr} {v : Value} {c c1 : List Int} (R : WrV w g base v c) (Q : Only [] w w2) (P : Only v.ownBlock.toList w2 w9)
    (V9 : OwnB w9 base (.slice A9 n k9) c1) (G : Where2 v (.slice A9 n k9) w2.heap.size) :
    WrV (w9.setCell ⟨g, 0, none⟩ (.slice A9 n k9)) g base (.slice A9 n k9) c1 ∧ Moved w (w9.setCell ⟨g, 0, none⟩ (.slice A9 n k9)) g v (.slice A9 n k9) := by
  have hlow := R.low
  have K9 := (R.blk.only Q (by simp)).only P ((R.own.only Q (by simp)).low g hlow)
  refine ⟨⟨?_, ?_, hlow, ?_⟩, ?_, ?_⟩
  · have := K9.set_ 0 (.slice A9 n k9)
    simpa using this
  · refine V9.far ((Only.refl [g] w9).setCell (p := ⟨g, 0, none⟩) (.inl (by simp)) _) (fun x hx hv => ?_)
    simp at hx
    have := V9.block x hv.symm
    omega
  · have := R.top; have := Q.size; have := P.size; simp [World.setCell]; omega
  · have P' : Only (g :: v.ownBlock.toList) w w9 := (Q.mono (by simp)).trans P (fun x hx => .inl (List.mem_cons_of_mem _ hx))
    exact P'.setCell (p := ⟨g, 0, none⟩) (.inl (by simp)) _
  · rcases G with G | G
    · exact .inl G
    · right; intro x hx
      rw [G] at hx
      injection hx with hx
      have := Q.size
      omega


/-! The walks -/
set_option maxRecDepth 100000 in
set_option maxHeartbeats 3200000 in
theorem wOctet_any (f : FD) (g base : Nat) (v : Value) (l : List Int) (w : World) (h : WrV w g base v l) (hn : 0 ≤ f.n ∧ f.n ≤ 4294967295) (hl : l.length ≤ 140737488355000) :
    Calls Tryz.prog 109 #[.pointer (some ⟨g, 0, none⟩), f.val] w (WPost w g base v (l ++ [f.n % 256])) := by
  obtain ⟨kind, n, tA, tc, text, lA, lc, list⟩ := f
  unfold FD.val
  dsimp only at *
  obtain ⟨w1, hw1⟩ : ∃ w1, w1 = w.alloc (.cells #[.int .i64 kind, .int .u32 n, .slice tA text.length tc, .slice lA list.length lc] 86) := ⟨_, rfl⟩
  have P1 : Only [] w w1 := by rw [hw1]; exact (Only.refl _ _).alloc _
  have R := h.only P1 (by simp) (by simp)
  have K : Blk w1 w.heap.size 86 [.int .i64 kind, .int .u32 n, .slice tA text.length tc, .slice lA list.length lc] := by rw [hw1]; exact Blk.new w _ _
  have c1 : w1.cell? ⟨w.heap.size, 1, none⟩ = some (.int .u32 n) := K.cell 1
  have c2 : w1.cell? ⟨w.heap.size, 2, none⟩ = some (.slice tA text.length tc) := K.cell 2
  have c0 := R.blk.cell 0
  have f0 := R.blk.frozen 0
  have hgl := R.blk.lt
  have hpl := K.lt
  have hlow := R.low
  have htop := R.top
  obtain ⟨A9, k9, rfl, _, q9, m9, _⟩ := h.own.rd
  have c0 : w1.cell? ⟨g, 0, none⟩ = some (.slice A9 l.length k9) := c0
  go_enter Tryz.func109, Tryz.ntmps109
  go_wp2_with fail
  rw [← hw1]
  have NP : w.heap.size ∉ (Value.slice A9 l.length k9).ownBlock.toList := h.own.high _ (Nat.le_refl _)
  have NG : g ∉ (Value.slice A9 l.length k9).ownBlock.toList := h.own.low _ hlow
  have hV : ∀ w2, Only [] w1 w2 → OwnB w2 base (.slice A9 l.length k9) l ∧ base ≤ w2.heap.size := fun w2 P => ⟨R.own.only P (by simp), by have := P.size; omega⟩
  replace hV := hide hV
  replace hw1 := hide hw1
  have cG : ∀ w2 w9, Only [] w1 w2 → Only (Value.slice A9 l.length k9).ownBlock.toList w2 w9 → w9.cell? ⟨g, 0, none⟩ = some (.slice A9 l.length k9) ∧ w9.frozen? ⟨g, 0, none⟩ = false := fun w2 w9 P Q =>
    ⟨cellL Q (by have := P.size; omega) NG (cellL P hgl (by simp) c0), frozenL Q (by have := P.size; omega) NG (frozenL P hgl (by simp) f0)⟩
  replace cG := hide cG
  have hI : (fun w' : World => w'.cell? ⟨g, 0, none⟩ = some (.slice A9 l.length k9) ∧ w'.cell? ⟨w.heap.size, 1, none⟩ = some (.int .u32 n)) { w1 with drawn := w1.drawn + 1 } := ⟨c0, c1⟩
  refine wp_region_E (fun w' : World => w'.cell? ⟨g, 0, none⟩ = some (.slice A9 l.length k9) ∧ w'.cell? ⟨w.heap.size, 1, none⟩ = some (.int .u32 n)) [10, 11, 12] (by kernel_rfl) ?_
  refine wpAnyE_take 0 (v := (.pointer (some ⟨g, 0, none⟩))) rfl (by kernel_rfl) (fun _ _ _ h => h) hI (fun w' hw' => Or.inl ⟨by rfl, Or.inl (by obtain ⟨i0, i1⟩ := hw'; go_simp)⟩) ?_
  refine wpAnyE_take 1 (v := (.pointer (some ⟨g, 0, none⟩))) rfl (by kernel_rfl) (fun _ _ _ h => h) hI (fun w' hw' => Or.inl ⟨by rfl, Or.inl (by obtain ⟨i0, i1⟩ := hw'; go_simp)⟩) ?_
  refine wpAnyE_take 2 (v := (.pointer (some ⟨g, 0, none⟩))) rfl (by kernel_rfl) (fun _ _ _ h => h) hI (fun w' hw' => Or.inl ⟨by rfl, Or.inl (by obtain ⟨i0, i1⟩ := hw'; go_simp)⟩) ?_
  refine wpAnyE_take 3 (v := (.pointer (some ⟨g, 0, none⟩))) rfl (by kernel_rfl) (fun _ _ _ h => h) hI (fun w' hw' => Or.inl ⟨by rfl, Or.inl (by obtain ⟨i0, i1⟩ := hw'; go_simp)⟩) ?_
  refine wpAnyE_take 4 (v := (.slice A9 l.length k9)) rfl (by kernel_rfl) (fun _ _ _ h => h) hI (fun w' hw' => Or.inl ⟨by rfl, Or.inl (by obtain ⟨i0, i1⟩ := hw'; go_simp)⟩) ?_
  refine wpAnyE_take 5 (v := (.pointer (some ⟨w.heap.size, 1, none⟩))) rfl (by kernel_rfl) (fun _ _ _ h => h) hI (fun w' hw' => Or.inl ⟨by rfl, Or.inl (by obtain ⟨i0, i1⟩ := hw'; go_simp)⟩) ?_
  refine wpAnyE_take 6 (v := (.int .u32 n)) rfl (by kernel_rfl) (fun _ _ _ h => h) hI (fun w' hw' => Or.inl ⟨by rfl, Or.inl (by obtain ⟨i0, i1⟩ := hw'; go_simp)⟩) ?_
  refine wpAnyE_take 7 (v := (.int .u8 (IntKind.u8.wrap n))) rfl (by kernel_rfl) (fun _ _ _ h => h) hI (fun w' hw' => Or.inl ⟨by rfl, Or.inl (by obtain ⟨i0, i1⟩ := hw'; go_simp)⟩) ?_
  refine wpAnyE_tail 8 [8, 9] [10, 11, 12] rfl (by kernel_rfl) (by decide) hI ?_
  simp only [List.drop_succ_cons, List.drop_zero]
  refine wpListI_step (fun K hK => ?_)
  go_simp
  refine hK _ _ ⟨by go_simp, by go_simp⟩ ?_
  clear hK K
  refine wpListI_step (fun K hK => ?_)
  refine step_app0 (by rfl) _ _ (by rfl) base (.slice A9 l.length k9) l (by rfl) (hV.out _ (by repeat (first | exact Only.refl _ _ | apply Only.alloc | apply Only.drew))).1 (some ⟨w1.heap.size, 0, none⟩) 1 [n % 256] 1 rfl (by rfl) (rd_one _ _) (by simp; omega) (hV.out _ (by repeat (first | exact Only.refl _ _ | apply Only.alloc | apply Only.drew))).2 ?_
  intro g9 k9' w9 V9 P9 G9
  obtain ⟨cc, ff⟩ := cG.out _ w9 (by repeat (first | exact Only.refl _ _ | apply Only.alloc | apply Only.drew)) P9
  have cn := cellL P9 (b := w.heap.size) (o := 1) (v := (.int .u32 n)) (by simp; omega) NP (by go_simp)
  refine hK _ _ ⟨cc, cn⟩ ?_
  clear hK K
  refine wpListI_zero ?_
  go_wp2
  go_end0
  obtain ⟨r1, r2⟩ := wr_put R (by repeat (first | exact Only.refl _ _ | apply Only.alloc | apply Only.drew)) P9 V9.out G9.out
  exact ⟨rfl, _, r1, r2.from P1⟩

set_option maxRecDepth 100000 in
set_option maxHeartbeats 3200000 in
theorem wNumber_any (f : FD) (g base : Nat) (v : Value) (l : List Int) (w : World) (h : WrV w g base v l) (hn : 0 ≤ f.n ∧ f.n ≤ 4294967295) (hl : l.length ≤ 140737488355000) :
    Calls Tryz.prog 114 #[.pointer (some ⟨g, 0, none⟩), f.val] w (WPost w g base v (l ++ four f.n)) := by
  obtain ⟨kind, n, tA, tc, text, lA, lc, list⟩ := f
  unfold FD.val
  dsimp only at *
  obtain ⟨w1, hw1⟩ : ∃ w1, w1 = w.alloc (.cells #[.int .i64 kind, .int .u32 n, .slice tA text.length tc, .slice lA list.length lc] 86) := ⟨_, rfl⟩
  have P1 : Only [] w w1 := by rw [hw1]; exact (Only.refl _ _).alloc _
  have R := h.only P1 (by simp) (by simp)
  have K : Blk w1 w.heap.size 86 [.int .i64 kind, .int .u32 n, .slice tA text.length tc, .slice lA list.length lc] := by rw [hw1]; exact Blk.new w _ _
  have c1 : w1.cell? ⟨w.heap.size, 1, none⟩ = some (.int .u32 n) := K.cell 1
  have c2 : w1.cell? ⟨w.heap.size, 2, none⟩ = some (.slice tA text.length tc) := K.cell 2
  have c0 := R.blk.cell 0
  have f0 := R.blk.frozen 0
  have hgl := R.blk.lt
  have hpl := K.lt
  have hlow := R.low
  have htop := R.top
  obtain ⟨A9, k9, rfl, _, q9, m9, _⟩ := h.own.rd
  have c0 : w1.cell? ⟨g, 0, none⟩ = some (.slice A9 l.length k9) := c0
  go_enter Tryz.func114, Tryz.ntmps114
  go_wp2_with fail
  rw [← hw1]
  have NP : w.heap.size ∉ (Value.slice A9 l.length k9).ownBlock.toList := h.own.high _ (Nat.le_refl _)
  have NG : g ∉ (Value.slice A9 l.length k9).ownBlock.toList := h.own.low _ hlow
  have hV : ∀ w2, Only [] w1 w2 → OwnB w2 base (.slice A9 l.length k9) l ∧ base ≤ w2.heap.size := fun w2 P => ⟨R.own.only P (by simp), by have := P.size; omega⟩
  replace hV := hide hV
  replace hw1 := hide hw1
  have cG : ∀ w2 w9, Only [] w1 w2 → Only (Value.slice A9 l.length k9).ownBlock.toList w2 w9 → w9.cell? ⟨g, 0, none⟩ = some (.slice A9 l.length k9) ∧ w9.frozen? ⟨g, 0, none⟩ = false := fun w2 w9 P Q =>
    ⟨cellL Q (by have := P.size; omega) NG (cellL P hgl (by simp) c0), frozenL Q (by have := P.size; omega) NG (frozenL P hgl (by simp) f0)⟩
  replace cG := hide cG
  have hI : (fun w' : World => w'.cell? ⟨g, 0, none⟩ = some (.slice A9 l.length k9) ∧ w'.cell? ⟨w.heap.size, 1, none⟩ = some (.int .u32 n)) { w1 with drawn := w1.drawn + 1 } := ⟨c0, c1⟩
  refine wp_region_E (fun w' : World => w'.cell? ⟨g, 0, none⟩ = some (.slice A9 l.length k9) ∧ w'.cell? ⟨w.heap.size, 1, none⟩ = some (.int .u32 n)) [22, 23, 24] (by kernel_rfl) ?_
  refine wpAnyE_take 0 (v := (.pointer (some ⟨g, 0, none⟩))) rfl (by kernel_rfl) (fun _ _ _ h => h) hI (fun w' hw' => Or.inl ⟨by rfl, Or.inl (by obtain ⟨i0, i1⟩ := hw'; go_simp)⟩) ?_
  refine wpAnyE_take 1 (v := (.pointer (some ⟨g, 0, none⟩))) rfl (by kernel_rfl) (fun _ _ _ h => h) hI (fun w' hw' => Or.inl ⟨by rfl, Or.inl (by obtain ⟨i0, i1⟩ := hw'; go_simp)⟩) ?_
  refine wpAnyE_take 2 (v := (.pointer (some ⟨g, 0, none⟩))) rfl (by kernel_rfl) (fun _ _ _ h => h) hI (fun w' hw' => Or.inl ⟨by rfl, Or.inl (by obtain ⟨i0, i1⟩ := hw'; go_simp)⟩) ?_
  refine wpAnyE_take 3 (v := (.pointer (some ⟨g, 0, none⟩))) rfl (by kernel_rfl) (fun _ _ _ h => h) hI (fun w' hw' => Or.inl ⟨by rfl, Or.inl (by obtain ⟨i0, i1⟩ := hw'; go_simp)⟩) ?_
  refine wpAnyE_take 4 (v := (.slice A9 l.length k9)) rfl (by kernel_rfl) (fun _ _ _ h => h) hI (fun w' hw' => Or.inl ⟨by rfl, Or.inl (by obtain ⟨i0, i1⟩ := hw'; go_simp)⟩) ?_
  refine wpAnyE_take 5 (v := (.pointer (some ⟨w.heap.size, 1, none⟩))) rfl (by kernel_rfl) (fun _ _ _ h => h) hI (fun w' hw' => Or.inl ⟨by rfl, Or.inl (by obtain ⟨i0, i1⟩ := hw'; go_simp)⟩) ?_
  refine wpAnyE_take 6 (v := (.int .u32 n)) rfl (by kernel_rfl) (fun _ _ _ h => h) hI (fun w' hw' => Or.inl ⟨by rfl, Or.inl (by obtain ⟨i0, i1⟩ := hw'; go_simp)⟩) ?_
  refine wpAnyE_take 7 (v := (.int .u32 (n / 16777216))) rfl (by kernel_rfl) (fun _ _ _ h => h) hI (fun w' hw' => Or.inl ⟨by rfl, Or.inl (by obtain ⟨i0, i1⟩ := hw'; go_simp)⟩) ?_
  refine wpAnyE_take 8 (v := (.int .u8 (IntKind.u8.wrap (n / 16777216)))) rfl (by kernel_rfl) (fun _ _ _ h => h) hI (fun w' hw' => Or.inl ⟨by rfl, Or.inl (by obtain ⟨i0, i1⟩ := hw'; go_simp)⟩) ?_
  refine wpAnyE_take 9 (v := (.pointer (some ⟨w.heap.size, 1, none⟩))) rfl (by kernel_rfl) (fun _ _ _ h => h) hI (fun w' hw' => Or.inl ⟨by rfl, Or.inl (by obtain ⟨i0, i1⟩ := hw'; go_simp)⟩) ?_
  refine wpAnyE_take 10 (v := (.int .u32 n)) rfl (by kernel_rfl) (fun _ _ _ h => h) hI (fun w' hw' => Or.inl ⟨by rfl, Or.inl (by obtain ⟨i0, i1⟩ := hw'; go_simp)⟩) ?_
  refine wpAnyE_take 11 (v := (.int .u32 (n / 65536))) rfl (by kernel_rfl) (fun _ _ _ h => h) hI (fun w' hw' => Or.inl ⟨by rfl, Or.inl (by obtain ⟨i0, i1⟩ := hw'; go_simp)⟩) ?_
  refine wpAnyE_take 12 (v := (.int .u8 (IntKind.u8.wrap (n / 65536)))) rfl (by kernel_rfl) (fun _ _ _ h => h) hI (fun w' hw' => Or.inl ⟨by rfl, Or.inl (by obtain ⟨i0, i1⟩ := hw'; go_simp)⟩) ?_
  refine wpAnyE_take 13 (v := (.pointer (some ⟨w.heap.size, 1, none⟩))) rfl (by kernel_rfl) (fun _ _ _ h => h) hI (fun w' hw' => Or.inl ⟨by rfl, Or.inl (by obtain ⟨i0, i1⟩ := hw'; go_simp)⟩) ?_
  refine wpAnyE_take 14 (v := (.int .u32 n)) rfl (by kernel_rfl) (fun _ _ _ h => h) hI (fun w' hw' => Or.inl ⟨by rfl, Or.inl (by obtain ⟨i0, i1⟩ := hw'; go_simp)⟩) ?_
  refine wpAnyE_take 15 (v := (.int .u32 (n / 256))) rfl (by kernel_rfl) (fun _ _ _ h => h) hI (fun w' hw' => Or.inl ⟨by rfl, Or.inl (by obtain ⟨i0, i1⟩ := hw'; go_simp)⟩) ?_
  refine wpAnyE_take 16 (v := (.int .u8 (IntKind.u8.wrap (n / 256)))) rfl (by kernel_rfl) (fun _ _ _ h => h) hI (fun w' hw' => Or.inl ⟨by rfl, Or.inl (by obtain ⟨i0, i1⟩ := hw'; go_simp)⟩) ?_
  refine wpAnyE_take 17 (v := (.pointer (some ⟨w.heap.size, 1, none⟩))) rfl (by kernel_rfl) (fun _ _ _ h => h) hI (fun w' hw' => Or.inl ⟨by rfl, Or.inl (by obtain ⟨i0, i1⟩ := hw'; go_simp)⟩) ?_
  refine wpAnyE_take 18 (v := (.int .u32 n)) rfl (by kernel_rfl) (fun _ _ _ h => h) hI (fun w' hw' => Or.inl ⟨by rfl, Or.inl (by obtain ⟨i0, i1⟩ := hw'; go_simp)⟩) ?_
  refine wpAnyE_take 19 (v := (.int .u8 (IntKind.u8.wrap n))) rfl (by kernel_rfl) (fun _ _ _ h => h) hI (fun w' hw' => Or.inl ⟨by rfl, Or.inl (by obtain ⟨i0, i1⟩ := hw'; go_simp)⟩) ?_
  refine wpAnyE_tail 20 [20, 21] [22, 23, 24] rfl (by kernel_rfl) (by decide) hI ?_
  simp only [List.drop_succ_cons, List.drop_zero]
  refine wpListI_step (fun K hK => ?_)
  go_simp
  refine hK _ _ ⟨by go_simp, by go_simp⟩ ?_
  clear hK K
  refine wpListI_step (fun K hK => ?_)
  refine step_app0 (by rfl) _ _ (by rfl) base (.slice A9 l.length k9) l (by rfl) (hV.out _ (by repeat (first | exact Only.refl _ _ | apply Only.alloc | apply Only.drew))).1 (some ⟨w1.heap.size, 0, none⟩) 4 (four n) 4 rfl (by rfl) (rd_lit _ _ _ (by simp [u8s, four, IntKind.wrap_u8])) (by show l.length + 4 ≤ _; omega) (hV.out _ (by repeat (first | exact Only.refl _ _ | apply Only.alloc | apply Only.drew))).2 ?_
  intro g9 k9' w9 V9 P9 G9
  obtain ⟨cc, ff⟩ := cG.out _ w9 (by repeat (first | exact Only.refl _ _ | apply Only.alloc | apply Only.drew)) P9
  have cn := cellL P9 (b := w.heap.size) (o := 1) (v := (.int .u32 n)) (by simp; omega) NP (by go_simp)
  refine hK _ _ ⟨cc, cn⟩ ?_
  clear hK K
  refine wpListI_zero ?_
  go_wp2
  go_end0
  obtain ⟨r1, r2⟩ := wr_put R (by repeat (first | exact Only.refl _ _ | apply Only.alloc | apply Only.drew)) P9 V9.out G9.out
  exact ⟨rfl, _, r1, r2.from P1⟩

set_option maxRecDepth 100000 in
set_option maxHeartbeats 3200000 in
theorem wRest_any (f : FD) (g base : Nat) (v : Value) (l : List Int) (w : World) (h : WrV w g base v l) (hf : f.ok w) (hl : l.length + f.text.length ≤ 140737488355000) :
    Calls Tryz.prog 123 #[.pointer (some ⟨g, 0, none⟩), f.val] w (WPost w g base v (l ++ f.text)) := by
  obtain ⟨kind, n, tA, tc, text, lA, lc, list⟩ := f
  unfold FD.val
  dsimp only at *
  obtain ⟨w1, hw1⟩ : ∃ w1, w1 = w.alloc (.cells #[.int .i64 kind, .int .u32 n, .slice tA text.length tc, .slice lA list.length lc] 86) := ⟨_, rfl⟩
  have hT := hf.text
  dsimp only at hT
  have P1 : Only [] w w1 := by rw [hw1]; exact (Only.refl _ _).alloc _
  have R := h.only P1 (by simp) (by simp)
  have K : Blk w1 w.heap.size 86 [.int .i64 kind, .int .u32 n, .slice tA text.length tc, .slice lA list.length lc] := by rw [hw1]; exact Blk.new w _ _
  have c1 : w1.cell? ⟨w.heap.size, 1, none⟩ = some (.int .u32 n) := K.cell 1
  have c2 : w1.cell? ⟨w.heap.size, 2, none⟩ = some (.slice tA text.length tc) := K.cell 2
  have c0 := R.blk.cell 0
  have f0 := R.blk.frozen 0
  have hgl := R.blk.lt
  have hpl := K.lt
  have hlow := R.low
  have htop := R.top
  obtain ⟨A9, k9, rfl, _, q9, m9, _⟩ := h.own.rd
  have c0 : w1.cell? ⟨g, 0, none⟩ = some (.slice A9 l.length k9) := c0
  go_enter Tryz.func123, Tryz.ntmps123
  go_wp2_with fail
  rw [← hw1]
  have NP : w.heap.size ∉ (Value.slice A9 l.length k9).ownBlock.toList := h.own.high _ (Nat.le_refl _)
  have NG : g ∉ (Value.slice A9 l.length k9).ownBlock.toList := h.own.low _ hlow
  have hV : ∀ w2, Only [] w1 w2 → OwnB w2 base (.slice A9 l.length k9) l ∧ base ≤ w2.heap.size := fun w2 P => ⟨R.own.only P (by simp), by have := P.size; omega⟩
  replace hV := hide hV
  replace hw1 := hide hw1
  have cG : ∀ w2 w9, Only [] w1 w2 → Only (Value.slice A9 l.length k9).ownBlock.toList w2 w9 → w9.cell? ⟨g, 0, none⟩ = some (.slice A9 l.length k9) ∧ w9.frozen? ⟨g, 0, none⟩ = false := fun w2 w9 P Q =>
    ⟨cellL Q (by have := P.size; omega) NG (cellL P hgl (by simp) c0), frozenL Q (by have := P.size; omega) NG (frozenL P hgl (by simp) f0)⟩
  replace cG := hide cG
  have hI : (fun w' : World => w'.cell? ⟨g, 0, none⟩ = some (.slice A9 l.length k9) ∧ w'.cell? ⟨w.heap.size, 2, none⟩ = some (.slice tA text.length tc)) { w1 with drawn := w1.drawn + 1 } := ⟨c0, c2⟩
  refine wp_region_E (fun w' : World => w'.cell? ⟨g, 0, none⟩ = some (.slice A9 l.length k9) ∧ w'.cell? ⟨w.heap.size, 2, none⟩ = some (.slice tA text.length tc)) [8, 9, 10] (by kernel_rfl) ?_
  refine wpAnyE_take 0 (v := (.pointer (some ⟨g, 0, none⟩))) rfl (by kernel_rfl) (fun _ _ _ h => h) hI (fun w' hw' => Or.inl ⟨by rfl, Or.inl (by obtain ⟨i0, i1⟩ := hw'; go_simp)⟩) ?_
  refine wpAnyE_take 1 (v := (.pointer (some ⟨g, 0, none⟩))) rfl (by kernel_rfl) (fun _ _ _ h => h) hI (fun w' hw' => Or.inl ⟨by rfl, Or.inl (by obtain ⟨i0, i1⟩ := hw'; go_simp)⟩) ?_
  refine wpAnyE_take 2 (v := (.pointer (some ⟨g, 0, none⟩))) rfl (by kernel_rfl) (fun _ _ _ h => h) hI (fun w' hw' => Or.inl ⟨by rfl, Or.inl (by obtain ⟨i0, i1⟩ := hw'; go_simp)⟩) ?_
  refine wpAnyE_take 3 (v := (.pointer (some ⟨g, 0, none⟩))) rfl (by kernel_rfl) (fun _ _ _ h => h) hI (fun w' hw' => Or.inl ⟨by rfl, Or.inl (by obtain ⟨i0, i1⟩ := hw'; go_simp)⟩) ?_
  refine wpAnyE_take 4 (v := (.slice A9 l.length k9)) rfl (by kernel_rfl) (fun _ _ _ h => h) hI (fun w' hw' => Or.inl ⟨by rfl, Or.inl (by obtain ⟨i0, i1⟩ := hw'; go_simp)⟩) ?_
  refine wpAnyE_take 5 (v := (.pointer (some ⟨w.heap.size, 2, none⟩))) rfl (by kernel_rfl) (fun _ _ _ h => h) hI (fun w' hw' => Or.inl ⟨by rfl, Or.inl (by obtain ⟨i0, i1⟩ := hw'; go_simp)⟩) ?_
  refine wpAnyE_take 6 (v := (.slice tA text.length tc)) rfl (by kernel_rfl) (fun _ _ _ h => h) hI (fun w' hw' => Or.inl ⟨by rfl, Or.inl (by obtain ⟨i0, i1⟩ := hw'; go_simp)⟩) ?_
  refine wpAnyE_tail 7 [7] [8, 9, 10] rfl (by kernel_rfl) (by decide) hI ?_
  simp only [List.drop_succ_cons, List.drop_zero]
  refine wpListI_step (fun K hK => ?_)
  refine step_app0 (by rfl) _ _ (by rfl) base (.slice A9 l.length k9) l (by rfl) (hV.out _ (by repeat (first | exact Only.refl _ _ | apply Only.alloc | apply Only.drew))).1 tA tc text text.length rfl (by rfl) (hT.only (P1.trans (w2 := _) (by repeat (first | exact Only.refl [] _ | apply Only.alloc | apply Only.drew)) (by simp))) (by omega) (hV.out _ (by repeat (first | exact Only.refl _ _ | apply Only.alloc | apply Only.drew))).2 ?_
  intro g9 k9' w9 V9 P9 G9
  obtain ⟨cc, ff⟩ := cG.out _ w9 (by repeat (first | exact Only.refl _ _ | apply Only.alloc | apply Only.drew)) P9
  have cn := cellL P9 (b := w.heap.size) (o := 2) (v := (.slice tA text.length tc)) (by simp; omega) NP (by go_simp)
  refine hK _ _ ⟨cc, cn⟩ ?_
  clear hK K
  refine wpListI_zero ?_
  go_wp2
  go_end0
  obtain ⟨r1, r2⟩ := wr_put R (by repeat (first | exact Only.refl _ _ | apply Only.alloc | apply Only.drew)) P9 V9.out G9.out
  exact ⟨rfl, _, r1, r2.from P1⟩
end Go.Proofs.YtkgikodiecmakaaGreatDoor

namespace Go.Proofs.YtkgikodiecmakaaGreatDoor
set_option linter.all false
open Go.RowKit

def numF (n : Int) : FD := ⟨0, n, none, 0, [], none, 0, []⟩
theorem Blk.moved {w w' : World} {g q : Nat} {v v' : Value} {t : TypeId} {cs : List Value} (h : Blk w q t cs) (m : Moved w w' g v v') (h1 : q ≠ g) (h2 : v.ownBlock ≠ some q) : Blk w' q t cs :=
  h.only m.1 (by simp [h1]; exact h2)
theorem RdG.moved {α : Type} {mk : α → Value} {w w' : World} {g base : Nat} {v v' : Value} {A : Option Addr} {l : List α} (h : RdG mk w A l) (m : Moved w w' g v v') (h1 : ∀ a, A = some a → 0 < l.length → a.block ≠ g ∧ v.ownBlock ≠ some a.block) : RdG mk w' A l :=
  h.onlyL m.1 (fun a ha h0 hm => by
    have := h1 a ha h0
    simp at hm
    rcases hm with hm | hm
    · exact this.1 hm
    · exact this.2 hm)
/-- The field lies apart from what a writer writes. -/
def FD.far (f : FD) (g : Nat) (v : Value) : Prop := (∀ a, f.tA = some a → 0 < f.text.length → a.block ≠ g ∧ v.ownBlock ≠ some a.block) ∧ (∀ a, f.lA = some a → 0 < f.list.length → a.block ≠ g ∧ v.ownBlock ≠ some a.block)
theorem FD.ok.moved {w w' : World} {g : Nat} {v v' : Value} {f : FD} (h : f.ok w) (m : Moved w w' g v v') (hf : f.far g v) : f.ok w' :=
  { h with text := h.text.moved (base := 0) m hf.1, list := h.list.moved (base := 0) m hf.2 }

set_option maxRecDepth 100000 in
set_option maxHeartbeats 3200000 in
theorem wText_any (f : FD) (g base : Nat) (v : Value) (l : List Int) (w : World) (h : WrV w g base v l) (hf : f.ok w) (hfar : f.far g v) (hl : l.length + f.text.length ≤ 140737488354000) (h32 : f.text.length ≤ 4294967295) :
    Calls Tryz.prog 117 #[.pointer (some ⟨g, 0, none⟩), f.val] w (WPost w g base v (l ++ (four f.text.length ++ f.text))) := by
  obtain ⟨w1, hw1⟩ : ∃ w1, w1 = w.alloc (.cells #[.int .i64 f.kind, .int .u32 f.n, .slice f.tA f.text.length f.tc, .slice f.lA f.list.length f.lc] 86) := ⟨_, rfl⟩
  have P1 : Only [] w w1 := by rw [hw1]; exact (Only.refl _ _).alloc _
  have R := h.only P1 (by simp) (by simp)
  have K : Blk w1 w.heap.size 86 [.int .i64 f.kind, .int .u32 f.n, .slice f.tA f.text.length f.tc, .slice f.lA f.list.length f.lc] := by rw [hw1]; exact Blk.new w _ _
  have hf1 := hf.only P1
  have hgl := h.blk.lt
  have hN := wNumber_any (numF f.text.length) g base v l w1 R ⟨by simp [numF], by simp only [numF]; omega⟩ (by omega)
  have hR : ∀ v2 w2, WrV w2 g base v2 (l ++ four f.text.length) → Moved w1 w2 g v v2 → Blk w2 w.heap.size 86 [.int .i64 f.kind, .int .u32 f.n, .slice f.tA f.text.length f.tc, .slice f.lA f.list.length f.lc] ∧
      Calls Tryz.prog 123 #[.pointer (some ⟨g, 0, none⟩), f.val] w2 (fun e w' => e = .returned (.tuple #[]) ∧ ∃ v', WrV w' g base v' (l ++ (four f.text.length ++ f.text)) ∧ Moved w w' g v v') := by
    intro v2 w2 R2 M2
    refine ⟨K.moved M2 (by omega) (fun hv => by have := h.own.block _ hv; omega), ?_⟩
    have := wRest_any f g base v2 (l ++ four f.text.length) w2 R2 (hf1.moved M2 hfar) (by simp [four]; omega)
    refine this.mono fun e w' ⟨he, v', R3, M3⟩ => ⟨he, v', by rw [← List.append_assoc]; exact R3, (M2.trans M3).from P1⟩
  replace hR := hide hR
  unfold FD.val numF at hN
  dsimp only at hN
  unfold FD.val
  simp only [List.length_nil] at hN
  have c2 : w1.cell? ⟨w.heap.size, 2, none⟩ = some (.slice f.tA f.text.length f.tc) := K.cell 2
  have hlen : (f.text.length : Int) ≤ 4294967295 := by omega
  have hp : w.heap.size < w1.heap.size := K.lt
  clear hf hf1 hfar K
  go_enter Tryz.func117, Tryz.ntmps117
  go_wp2_with fail
  rw [← hw1]
  replace hw1 := hide hw1
  go_wp2_with fail
  go_call hN as e w2 ⟨rfl, v2, R2, M2⟩
  clear hN c2
  obtain ⟨K2, hR2⟩ := hR.out v2 w2 R2 M2
  have c0 := K2.cell 0
  have c1 := K2.cell 1
  have c2 := K2.cell 2
  have c3 := K2.cell 3
  unfold FD.val at hR2
  replace hR2 := hide hR2
  go_wp2_with fail
  go_call hR2.out as e w3 ⟨rfl, v3, R3, M3⟩
  go_wp2_with fail
  go_end0
  exact ⟨rfl, v3, R3, M3⟩
end Go.Proofs.YtkgikodiecmakaaGreatDoor

namespace Go.Proofs.YtkgikodiecmakaaGreatDoor
set_option linter.all false
open Go.RowKit

def joinU (l : List ByteArray) : List UInt8 := Lib.join (l.map (·.data.toList)) [44]
def u8i (l : List UInt8) : List Int := l.map fun c => (c.toNat : Int)
theorem joinU_le (l : List ByteArray) (hs : ∀ s ∈ l, s.size ≤ 64) : (joinU l).length ≤ l.length * 65 := by
  unfold joinU Lib.join
  induction l with
  | nil => simp
  | cons a r ih =>
    have ha : a.data.toList.length ≤ 64 := by simpa using hs a List.mem_cons_self
    have hr := ih (fun s h => hs s (List.mem_cons_of_mem _ h))
    cases r with
    | nil => simp at ha ⊢; omega
    | cons b r =>
      simp only [List.map_cons, List.intercalate, List.intersperse, List.flatten_cons, List.length_append, List.length_cons] at hr ⊢
      simp at ha hr ⊢
      omega
theorem join_any (A : Option Addr) (l : List ByteArray) (cap : Nat) (w : World) (h : RdS w A l) (hc : l.length ≤ cap) (h64 : l.length ≤ 64) (hs : ∀ s ∈ l, s.size ≤ 64) :
    Calls Tryz.prog 134 #[.slice A l.length cap, .string ⟨#[44]⟩] w fun e w' => e = .returned (.string ⟨(joinU l).toArray⟩) ∧ Only [] w w' := by
  have hj := joinU_le l hs
  by_cases h0 : 0 < l.length
  · obtain ⟨b, off, rfl, hb, hcell⟩ := h h0
    refine (Tryz.strings_Join b off cap l ⟨#[44]⟩ w (fun j x hx => hcell j x hx) hb (by omega) hc ?_).mono fun e w' ⟨h1, h2⟩ => ⟨h1, only_of_below h2⟩
    show (joinU l).length ≤ _
    omega
  · obtain rfl : l = [] := List.eq_nil_of_length_eq_zero (by omega)
    refine (Tryz.strings_Join_none A cap ⟨#[44]⟩ w).mono fun e w' ⟨h1, h2⟩ => ⟨h1, by rw [h2]; exact Only.refl _ _⟩

theorem bytesW (w : World) (e : TypeId) (S : List UInt8) :
    Only [] w (Lib.bytesWorld w e ⟨S.toArray⟩) ∧ RdG (.int .u8) (Lib.bytesWorld w e ⟨S.toArray⟩) (some ⟨w.heap.size, 0, none⟩) (u8i S) ∧ (Lib.bytesWorld w e ⟨S.toArray⟩).heap.size = w.heap.size + 1 := by
  refine ⟨⟨rfl, rfl, rfl, ?_, fun k hk _ => Lib.bytesWorld_at_old _ _ _ k hk⟩, fun _ => ⟨w.heap.size, 0, rfl, ?_, fun i x hx => ?_⟩, Lib.bytesWorld_size _ _ _⟩
  · rw [Lib.bytesWorld_size]; omega
  · rw [Lib.bytesWorld_size]; omega
  · have hi : i < S.length := by
      have := (List.getElem?_eq_some_iff.mp hx).1
      simpa [u8i] using this
    have hx' : (S[i].toNat : Int) = x := by simpa [u8i, hi] using hx
    have h := Lib.bytesWorld_cell w e ⟨S.toArray⟩ i (by simpa [ByteArray.size] using hi)
    rw [Nat.zero_add, h]
    simp [List.getD, hi, hx']
theorem run_conv_bytes (w : World) (S : List UInt8) : ∃ c w', (Go.Sem.run Tryz.prog (convert 9 34 (.string ⟨S.toArray⟩)) w) = .ok (.slice (some ⟨w.heap.size, 0, none⟩) S.length c) w' ∧ S.length ≤ c ∧ (S.length ≤ maxLen → c ≤ maxLen) ∧ Only [] w w' ∧ RdG (.int .u8) w' (some ⟨w.heap.size, 0, none⟩) (u8i S) ∧ w'.heap.size = w.heap.size + 1 := by
  have h := Lib.run_convert_string_bytes (P := Tryz.prog) w 9 34 5 ⟨S.toArray⟩ (u := .string) (by kernel_rfl) (by kernel_rfl) (by kernel_rfl)
  obtain ⟨a, b, c⟩ := bytesW w 5 S
  refine ⟨_, _, h, ?_, ?_, a, b, c⟩
  · have := grownCap_ge w S.length 0 5
    simpa [ByteArray.size] using this
  · intro hm
    have := grownCap_le_maxLen w S.length 0 5 hm
    simpa [ByteArray.size] using this

set_option maxRecDepth 100000 in
set_option maxHeartbeats 3200000 in
theorem wNames_any (f : FD) (g base : Nat) (v : Value) (l : List Int) (w : World) (h : WrV w g base v l) (hf : f.ok w) (h64 : f.list.length ≤ 64) (hs : ∀ s ∈ f.list, s.size ≤ 64) (hl : l.length ≤ 140737488340000) :
    Calls Tryz.prog 120 #[.pointer (some ⟨g, 0, none⟩), f.val] w (WPost w g base v (l ++ (four (joinU f.list).length ++ u8i (joinU f.list)))) := by
  have hj := joinU_le f.list hs
  obtain ⟨w1, hw1⟩ : ∃ w1, w1 = w.alloc (.cells #[.int .i64 f.kind, .int .u32 f.n, .slice f.tA f.text.length f.tc, .slice f.lA f.list.length f.lc] 86) := ⟨_, rfl⟩
  have P1 : Only [] w w1 := by rw [hw1]; exact (Only.refl _ _).alloc _
  have K : Blk w1 w.heap.size 86 [.int .i64 f.kind, .int .u32 f.n, .slice f.tA f.text.length f.tc, .slice f.lA f.list.length f.lc] := by rw [hw1]; exact Blk.new w _ _
  have c3 : w1.cell? ⟨w.heap.size, 3, none⟩ = some (.slice f.lA f.list.length f.lc) := K.cell 3
  have J := join_any f.lA f.list f.lc w1 (hf.list.only P1) hf.lle h64 hs
  obtain ⟨S, hS⟩ : ∃ S, S = joinU f.list := ⟨_, rfl⟩
  rw [← hS] at J hj ⊢
  have hSl : S.length ≤ 4160 := by omega
  replace hS := hide hS
  unfold FD.val
  go_enter Tryz.func120, Tryz.ntmps120
  go_wp2_with fail
  rw [← hw1]
  replace hw1 := hide hw1
  go_wp2_with fail
  go_call J as e w2 ⟨rfl, P2⟩
  clear J c3 K
  obtain ⟨cc, w3, hcv, hcc, hcm, P3, RS, hs3⟩ := run_conv_bytes w2 S
  have P13 : Only [] w w3 := (P1.trans P2 (by simp)).trans P3 (by simp)
  have R3 := h.only P13 (by simp) (by simp)
  have hb2 : w2.heap.size ≥ w1.heap.size := P2.size
  have hb1 : w1.heap.size ≥ w.heap.size := P1.size
  have hgl := h.blk.lt
  have hSm : S.length ≤ maxLen := by unfold maxLen; omega
  have hu : (u8i S).length = S.length := by simp [u8i]
  have T := wText_any ⟨0, 0, some ⟨w2.heap.size, 0, none⟩, cc, u8i S, none, 0, []⟩ g base v l w3 R3
    ⟨RS, RdG.nil, by simp only [hu]; exact hcc, hcm hSm, by simp, by simp, by simp⟩
    ⟨fun a ha _ => by injection ha with ha; subst ha; exact ⟨by simp only; omega, fun hv => by have := h.own.block _ hv; simp only at this; omega⟩, fun a ha => by cases ha⟩
    (by simp only [hu]; omega) (by simp only [hu]; omega)
  unfold FD.val at T
  simp only [hu, List.length_nil] at T
  go_wp2_with fail
  go_call T as e w4 ⟨rfl, v4, R4, M4⟩
  go_wp2_with fail
  go_end0
  exact ⟨rfl, v4, R4, M4.from P13⟩
end Go.Proofs.YtkgikodiecmakaaGreatDoor

namespace Go.Proofs.YtkgikodiecmakaaGreatDoor
set_option linter.all false
open Go.RowKit

/-- xs == nil. -/
theorem nil_none (w : World) (n c : Nat) : (binOp .eql 34 (.slice none n c) (.slice none 0 0)).run Tryz.prog w = .ok (.bool true) w := Lib.run_eql_slice_nil (P := Tryz.prog) w 34 5 none n c 0 0 (by kernel_rfl)
theorem nil_some (w : World) (a : Addr) (n c : Nat) : (binOp .eql 34 (.slice (some a) n c) (.slice none 0 0)).run Tryz.prog w = .ok (.bool false) w := Lib.run_eql_slice_nil (P := Tryz.prog) w 34 5 (some a) n c 0 0 (by kernel_rfl)

/-- Bytes that are read, in a slice whose memory lies from B on. -/
structure Bs (w : World) (B : Nat) (A : Option Addr) (l : List Int) (c : Nat) : Prop where
  rd : Rd w A l
  le : l.length ≤ c
  max : c ≤ maxLen
  new : ∀ a, A = some a → B ≤ a.block
  soft : ∀ a, A = some a → ∀ i, i < l.length → w.frozen? (a.add i) = false
theorem OwnB.soft {w : World} {base : Nat} {A : Option Addr} {n cap : Nat} {l : List Int} (h : OwnB w base (.slice A n cap) l) : ∀ a, A = some a → ∀ i, i < l.length → w.frozen? (a.add i) = false := by
  intro a ha i hi
  rcases h.2 with ⟨e, hn⟩ | ⟨g, cap', cur, e, hg, hh, r⟩
  · omega
  · injection e with e1
    rw [ha] at e1
    injection e1 with e1
    subst e1
    rw [Addr.add_lit]
    exact frozen_of_row w g _ _ _ hh
set_option maxRecDepth 100000 in
set_option maxHeartbeats 3200000 in
theorem clone_any (w : World) (A : Option Addr) (l : List Int) (c : Nat) (h : Rd w A l) (hl : l.length ≤ 140737488355000) :
    Calls Tryz.prog 130 #[.slice A l.length c] w fun e w' => Only [] w w' ∧ ∃ A' c', e = .returned (.slice A' l.length c') ∧ Bs w' w.heap.size A' l c' := by
  cases A with
  | none =>
    have h0 : l.length = 0 := by
      rcases Nat.eq_zero_or_pos l.length with h0 | h0
      · exact h0
      · obtain ⟨b, off, e, _⟩ := h h0
        cases e
    obtain rfl : l = [] := List.eq_nil_of_length_eq_zero h0
    go_enter Tryz.func130, Tryz.ntmps130
    have kn := nil_none
    go_wp2
    go_ret
    exact ⟨Only.refl _ _, none, 0, rfl, ⟨fun h => absurd h (by simp), by simp, by simp, (fun a ha => by cases ha), (fun a ha => by cases ha)⟩⟩
  | some ad =>
    obtain ⟨k, hgl⟩ : ∃ k, l.length = k := ⟨_, rfl⟩
    rw [hgl] at hl ⊢
    have V0 : OwnB (w.alloc (.cells #[] 5)) w.heap.size (.slice (some ⟨w.heap.size, 0, none⟩) 0 0) [] := by
      have := ownB_lit w w.heap.size [] (Nat.le_refl _) (by decide)
      simpa [u8s] using this
    have P1 : Only [] w (w.alloc (.cells #[] 5)) := (Only.refl _ _).alloc _
    have okr := h.only P1
    replace hgl := hide hgl
    have kn := nil_some
    go_enter Tryz.func130, Tryz.ntmps130
    go_wp2_with (at_builtin; go_must (refine wpList_app3 rfl (.tmp 5) (.tmp 6) rfl w.heap.size (.slice (some ⟨w.heap.size, 0, none⟩) 0 0) [] rfl V0 (some ad) c l k hgl.out rfl okr (by rw [hgl.out]; simp; omega) (by simp) ?_); intro v9 w9 V9 P9 _
                 obtain ⟨A9, k9, rfl, G9, q9, m9, a9⟩ := V9.out.rd)
    go_ret
    rw [List.nil_append] at G9 q9
    have SF : OwnB w9 w.heap.size (.slice A9 ([] ++ l).length k9) ([] ++ l) := V9.out
    rw [List.nil_append] at SF
    have P9' : Only [w.heap.size] _ w9 := P9
    refine ⟨P1.trans P9' (by simp), A9, k9, ?_, ⟨G9, q9, m9, a9, SF.soft⟩⟩
    simp [hgl.out]
end Go.Proofs.YtkgikodiecmakaaGreatDoor
